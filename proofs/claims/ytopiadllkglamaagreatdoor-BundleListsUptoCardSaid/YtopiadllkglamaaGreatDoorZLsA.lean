/- The functions of lists of distributions,resolved: by program (Gen.lean); licitref46.Insert is not (a region is not resolved). licitref46.Insert,resolved: by program (Gen.lean). bundle.List: a packag -/
import Derived.Test.YtopiadllkglamaaGreatDoorZJnA
import Derived.Test.YtopiadllkglamaaGreatDoorZJnC
namespace Go.Proofs.YtopiadllkglamaaGreatDoor
def Ks.bundle_List : List Nat := [0,2,3,4,5,6,8,10,14,15,16,34,35,36]
def Rs.bundle_List : List RV := [.tmp 2,.tmp 3,.tmp 4]
def Dl.bundle_List : List (List Nat) := [[8,10,34,35,36],[10]]
def Mc.bundle_List_L1 : MC := (.seq (.reg [
  ⟨none,some 37,false,.bin .lss,[.t 36,.t 35]⟩])
 (.seq (.ite (.t 37)
  .skip
  (.exit 2))
 (.seq (.blk 3 (.seq (.reg [
  ⟨none,some 38,false,.iadr 2,[.t 34,.t 36]⟩,
  ⟨none,some 39,false,.ld 2 true,[.t 38]⟩,
  ⟨none,some 10,true,.alloc [.str [],.str []],[]⟩,
  ⟨none,none,false,.st 2,[.t 10,.t 39]⟩])
 (.reg [
  ⟨none,some 40,false,.mv,[.t 6]⟩,
  ⟨none,some 41,false,.fadr 0,[.t 8]⟩,
  ⟨none,some 42,false,.ld 1 false,[.t 41]⟩,
  ⟨none,some 43,false,.bin .add,[.t 42,.c (.str [47])]⟩,
  ⟨none,some 44,false,.fadr 0,[.t 10]⟩,
  ⟨none,some 45,false,.ld 1 false,[.t 44]⟩,
  ⟨none,some 46,false,.bin .add,[.t 43,.t 45]⟩,
  ⟨none,some 47,false,.fadr 1,[.t 10]⟩,
  ⟨none,some 48,false,.ld 1 false,[.t 47]⟩,
  ⟨none,some 49,false,.bld [.str [],.str []] [(0,1),(1,1)],[.t 46,.t 48]⟩,
  ⟨none,some 50,false,.bsl false 2,[.t 49]⟩,
  ⟨none,some 51,false,.app false 2 32,[.t 40,.t 50]⟩,
  ⟨none,some 6,true,.mv,[.t 51]⟩])))
 (.reg [
  ⟨none,some 52,false,.bin .add,[.t 36,.c (.int .i64 1)]⟩,
  ⟨none,some 36,true,.mv,[.t 52]⟩]))))
def Mc.bundle_List_L0 : MC := (.seq (.reg [
  ⟨none,some 17,false,.bin .lss,[.t 16,.t 15]⟩])
 (.seq (.ite (.t 17)
  .skip
  (.exit 0))
 (.seq (.blk 1 (.seq (.reg [
  ⟨none,some 18,false,.iadr 4,[.t 14,.t 16]⟩,
  ⟨none,some 19,false,.ld 4 true,[.t 18]⟩,
  ⟨none,some 8,true,.alloc [.str [],.str [],.str [],.nils],[]⟩,
  ⟨none,none,false,.st 4,[.t 8,.t 19]⟩])
 (.seq (.reg [
  ⟨none,some 20,false,.mv,[.t 5]⟩,
  ⟨none,some 21,false,.fadr 0,[.t 8]⟩,
  ⟨none,some 22,false,.ld 1 false,[.t 21]⟩,
  ⟨none,some 23,false,.bin .add,[.t 22,.c (.str [32])]⟩,
  ⟨none,some 24,false,.fadr 1,[.t 8]⟩,
  ⟨none,some 25,false,.ld 1 false,[.t 24]⟩,
  ⟨none,some 26,false,.bin .add,[.t 23,.t 25]⟩,
  ⟨none,some 27,false,.bin .add,[.t 26,.c (.str [32])]⟩,
  ⟨none,some 28,false,.fadr 2,[.t 8]⟩,
  ⟨none,some 29,false,.ld 1 false,[.t 28]⟩,
  ⟨none,some 30,false,.bin .add,[.t 27,.t 29]⟩,
  ⟨none,some 31,false,.bin .add,[.t 30,.c (.str [10])]⟩,
  ⟨none,some 32,false,.bin .add,[.t 20,.t 31]⟩,
  ⟨none,some 5,true,.mv,[.t 32]⟩])
 (.seq (.reg [
  ⟨none,some 33,false,.fadr 3,[.t 8]⟩,
  ⟨none,some 34,true,.ld 1 false,[.t 33]⟩,
  ⟨none,some 35,true,.len 1,[.t 34]⟩,
  ⟨none,some 36,true,.mv,[.c (.int .i64 0)]⟩])
 (.blk 2 (.loop [10] Mc.bundle_List_L1))))))
 (.reg [
  ⟨none,some 53,false,.bin .add,[.t 16,.c (.int .i64 1)]⟩,
  ⟨none,some 16,true,.mv,[.t 53]⟩]))))
def Mc.bundle_List : MC := (.seq (.reg [
  ⟨none,some 2,true,.mv,[.c (.str [])]⟩,
  ⟨none,some 3,true,.newnil 2,[]⟩,
  ⟨none,some 4,true,.mv,[.c (.int .i64 0)]⟩])
 (.seq (.seq (.reg [
  ⟨none,some 11,false,.mv,[.t 0]⟩,
  ⟨none,some 12,false,.call Fn.build_Check,[.t 11]⟩,
  ⟨none,some 13,false,.bin .neq,[.t 12,.c (.int .i64 0)]⟩])
 (.ite (.t 13)
  (.seq (.reg [
   ⟨none,some 2,true,.mv,[.c (.str [])]⟩,
   ⟨none,some 3,true,.newnil 2,[]⟩,
   ⟨none,some 4,true,.mv,[.c (.int .i64 1)]⟩])
  .ret)
  .skip))
 (.seq (.reg [
  ⟨none,some 5,true,.mv,[.c (.str [])]⟩])
 (.seq (.reg [
  ⟨none,some 6,true,.newnil 2,[]⟩])
 (.seq (.seq (.reg [
  ⟨none,some 14,true,.mv,[.t 0]⟩,
  ⟨none,some 15,true,.len 1,[.t 14]⟩,
  ⟨none,some 16,true,.mv,[.c (.int .i64 0)]⟩])
 (.blk 0 (.loop [8,10,34,35,36] Mc.bundle_List_L0)))
 (.seq (.reg [
  ⟨none,some 54,false,.mv,[.t 6]⟩,
  ⟨none,some 55,false,.call Fn.q16,[.t 54,.c (.fn Fn.q71 [])]⟩])
 (.seq (.reg [
  ⟨none,some 56,false,.mv,[.t 5]⟩,
  ⟨none,some 57,false,.mv,[.t 6]⟩,
  ⟨none,some 2,true,.mv,[.t 56]⟩,
  ⟨none,some 3,true,.mv,[.t 57]⟩,
  ⟨none,some 4,true,.mv,[.c (.int .i64 0)]⟩])
 .ret)))))))
def Ks.q51 : List Nat := [0,2,3,4,5,6,7,8]
def Rs.q51 : List RV := [.tmp 2,.tmp 3,.tmp 4]
def Dl.q51 : List (List Nat) := [[8],[]]
def Mc.q51_L1 : MC := (.seq (.seq (.reg [
  ⟨none,some 40,false,.mv,[.t 8]⟩,
  ⟨none,some 41,false,.mv,[.t 0]⟩,
  ⟨none,some 42,false,.mv,[.t 7]⟩,
  ⟨none,some 43,false,.iadr 4,[.t 41,.t 42]⟩,
  ⟨none,some 44,false,.fadr 3,[.t 43]⟩,
  ⟨none,some 45,false,.ld 1 false,[.t 44]⟩,
  ⟨none,some 46,false,.len 1,[.t 45]⟩,
  ⟨none,some 47,false,.bin .lss,[.t 40,.t 46]⟩])
 (.ite (.t 47)
  .skip
  (.exit 2)))
 (.seq (.blk 3 (.rgd [
  ⟨none,some 50,false,.mv,[.t 6]⟩,
  ⟨none,some 51,false,.mv,[.t 0]⟩,
  ⟨none,some 52,false,.mv,[.t 7]⟩,
  ⟨none,some 53,false,.iadr 4,[.t 51,.t 52]⟩,
  ⟨none,some 54,false,.fadr 0,[.t 53]⟩,
  ⟨none,some 55,false,.ld 1 false,[.t 54]⟩,
  ⟨none,some 56,false,.bin .add,[.t 55,.c (.str [47])]⟩,
  ⟨none,some 57,false,.mv,[.t 0]⟩,
  ⟨none,some 58,false,.mv,[.t 7]⟩,
  ⟨none,some 59,false,.iadr 4,[.t 57,.t 58]⟩,
  ⟨none,some 60,false,.fadr 3,[.t 59]⟩,
  ⟨none,some 61,false,.ld 1 false,[.t 60]⟩,
  ⟨none,some 62,false,.mv,[.t 8]⟩,
  ⟨none,some 63,false,.iadr 2,[.t 61,.t 62]⟩,
  ⟨none,some 64,false,.fadr 0,[.t 63]⟩,
  ⟨none,some 65,false,.ld 1 false,[.t 64]⟩,
  ⟨none,some 66,false,.bin .add,[.t 56,.t 65]⟩,
  ⟨none,some 67,false,.mv,[.t 0]⟩,
  ⟨none,some 68,false,.mv,[.t 7]⟩,
  ⟨none,some 69,false,.iadr 4,[.t 67,.t 68]⟩,
  ⟨none,some 70,false,.fadr 3,[.t 69]⟩,
  ⟨none,some 71,false,.ld 1 false,[.t 70]⟩,
  ⟨none,some 72,false,.mv,[.t 8]⟩,
  ⟨none,some 73,false,.iadr 2,[.t 71,.t 72]⟩,
  ⟨none,some 74,false,.fadr 1,[.t 73]⟩,
  ⟨none,some 75,false,.ld 1 false,[.t 74]⟩,
  ⟨none,some 76,false,.bld [.str [],.str []] [(0,1),(1,1)],[.t 66,.t 75]⟩,
  ⟨none,some 77,false,.callg Fn.q37,[.t 50,.t 76]⟩,
  ⟨none,some 6,true,.mv,[.t 77]⟩]))
 (.reg [
  ⟨none,some 48,false,.mv,[.t 8]⟩,
  ⟨none,some 49,false,.bin .add,[.t 48,.c (.int .i64 1)]⟩,
  ⟨none,some 8,true,.mv,[.t 49]⟩])))
def Mc.q51_L0 : MC := (.seq (.seq (.reg [
  ⟨none,some 12,false,.mv,[.t 7]⟩,
  ⟨none,some 13,false,.mv,[.t 0]⟩,
  ⟨none,some 14,false,.len 1,[.t 13]⟩,
  ⟨none,some 15,false,.bin .lss,[.t 12,.t 14]⟩])
 (.ite (.t 15)
  .skip
  (.exit 0)))
 (.seq (.blk 1 (.seq (.rgd [
  ⟨none,some 18,false,.mv,[.t 5]⟩,
  ⟨none,some 19,false,.mv,[.t 0]⟩,
  ⟨none,some 20,false,.mv,[.t 7]⟩,
  ⟨none,some 21,false,.iadr 4,[.t 19,.t 20]⟩,
  ⟨none,some 22,false,.fadr 0,[.t 21]⟩,
  ⟨none,some 23,false,.ld 1 false,[.t 22]⟩,
  ⟨none,some 24,false,.bin .add,[.t 23,.c (.str [32])]⟩,
  ⟨none,some 25,false,.mv,[.t 0]⟩,
  ⟨none,some 26,false,.mv,[.t 7]⟩,
  ⟨none,some 27,false,.iadr 4,[.t 25,.t 26]⟩,
  ⟨none,some 28,false,.fadr 1,[.t 27]⟩,
  ⟨none,some 29,false,.ld 1 false,[.t 28]⟩,
  ⟨none,some 30,false,.bin .add,[.t 24,.t 29]⟩,
  ⟨none,some 31,false,.bin .add,[.t 30,.c (.str [32])]⟩,
  ⟨none,some 32,false,.mv,[.t 0]⟩,
  ⟨none,some 33,false,.mv,[.t 7]⟩,
  ⟨none,some 34,false,.iadr 4,[.t 32,.t 33]⟩,
  ⟨none,some 35,false,.fadr 2,[.t 34]⟩,
  ⟨none,some 36,false,.ld 1 false,[.t 35]⟩,
  ⟨none,some 37,false,.bin .add,[.t 31,.t 36]⟩,
  ⟨none,some 38,false,.bin .add,[.t 37,.c (.str [10])]⟩,
  ⟨none,some 39,false,.bin .add,[.t 18,.t 38]⟩,
  ⟨none,some 5,true,.mv,[.t 39]⟩])
 (.seq (.reg [
  ⟨none,some 8,true,.mv,[.c (.int .i64 0)]⟩])
 (.blk 2 (.loop [] Mc.q51_L1)))))
 (.reg [
  ⟨none,some 16,false,.mv,[.t 7]⟩,
  ⟨none,some 17,false,.bin .add,[.t 16,.c (.int .i64 1)]⟩,
  ⟨none,some 7,true,.mv,[.t 17]⟩])))
def Mc.q51 : MC := (.seq (.reg [
  ⟨none,some 2,true,.mv,[.c (.str [])]⟩,
  ⟨none,some 3,true,.newnil 2,[]⟩,
  ⟨none,some 4,true,.mv,[.c (.int .i64 0)]⟩])
 (.seq (.seq (.reg [
  ⟨none,some 9,false,.mv,[.t 0]⟩,
  ⟨none,some 10,false,.call Fn.q44,[.t 9]⟩,
  ⟨none,some 11,false,.bin .neq,[.t 10,.c (.int .i64 0)]⟩])
 (.ite (.t 11)
  (.seq (.reg [
   ⟨none,some 2,true,.mv,[.c (.str [])]⟩,
   ⟨none,some 3,true,.newnil 2,[]⟩,
   ⟨none,some 4,true,.mv,[.c (.int .i64 1)]⟩])
  .ret)
  .skip))
 (.seq (.reg [
  ⟨none,some 5,true,.mv,[.c (.str [])]⟩])
 (.seq (.reg [
  ⟨none,some 6,true,.newnil 2,[]⟩])
 (.seq (.seq (.reg [
  ⟨none,some 7,true,.mv,[.c (.int .i64 0)]⟩])
 (.blk 0 (.loop [8] Mc.q51_L0)))
 (.seq (.reg [
  ⟨none,some 78,false,.mv,[.t 5]⟩,
  ⟨none,some 79,false,.mv,[.t 6]⟩,
  ⟨none,some 2,true,.mv,[.t 78]⟩,
  ⟨none,some 3,true,.mv,[.t 79]⟩,
  ⟨none,some 4,true,.mv,[.c (.int .i64 0)]⟩])
 .ret))))))
end Go.Proofs.YtopiadllkglamaaGreatDoor
namespace Go.Proofs.YtopiadllkglamaaGreatDoor
def Ks.q37 : List Nat := [0,1,3,4,5]
def Rs.q37 : List RV := [.tmp 4]
def Dl.q37 : List (List Nat) := [[]]
def Mc.q37_L0 : MC := (.seq (.seq (.rgd [
  ⟨none,some 6,false,.mv,[.t 5]⟩,
  ⟨none,some 7,false,.mv,[.t 0]⟩,
  ⟨none,some 8,false,.len 1,[.t 7]⟩,
  ⟨none,some 9,false,.bin .lss,[.t 6,.t 8]⟩,
  ⟨none,some 10,false,.mv,[.t 9]⟩,
  ⟨some (10,true),some 11,false,.mv,[.t 0]⟩,
  ⟨some (10,true),some 12,false,.mv,[.t 5]⟩,
  ⟨some (10,true),some 13,false,.iadr 2,[.t 11,.t 12]⟩,
  ⟨some (10,true),some 14,false,.fadr 0,[.t 13]⟩,
  ⟨some (10,true),some 15,false,.ld 1 false,[.t 14]⟩,
  ⟨some (10,true),some 16,false,.fadr 0,[.t 3]⟩,
  ⟨some (10,true),some 17,false,.ld 1 false,[.t 16]⟩,
  ⟨some (10,true),some 18,false,.bin .lss,[.t 15,.t 17]⟩,
  ⟨none,some 19,false,.pick,[.t 10,.t 18,.c (.bool false)]⟩])
 (.ite (.t 19)
  .skip
  (.exit 0)))
 (.blk 1 (.reg [
  ⟨none,some 20,false,.mv,[.t 5]⟩,
  ⟨none,some 21,false,.bin .add,[.t 20,.c (.int .i64 1)]⟩,
  ⟨none,some 5,true,.mv,[.t 21]⟩])))
def Mc.q37 : MC := (.seq (.reg [
  ⟨none,some 3,true,.box,[.t 1]⟩,
  ⟨none,some 4,true,.newnil 2,[]⟩])
 (.seq (.reg [
  ⟨none,some 5,true,.mv,[.c (.int .i64 0)]⟩])
 (.seq (.blk 0 (.loop [] Mc.q37_L0))
 (.seq (.rge [
  (false,[],⟨none,some 22,false,.bsl false 2,[]⟩),
  (false,[],⟨none,some 23,false,.mv,[.t 0]⟩),
  (false,[],⟨none,some 24,false,.mv,[.t 5]⟩),
  (false,[],⟨none,some 25,false,.slc (some 2) false true false,[.t 23,.t 24]⟩),
  (false,[5],⟨none,some 27,false,.ld 2 true,[.t 3]⟩),
  (false,[4],⟨none,some 28,false,.bsl false 2,[.t 27]⟩),
  (false,[],⟨none,some 30,false,.mv,[.t 0]⟩),
  (false,[],⟨none,some 31,false,.mv,[.t 5]⟩),
  (false,[1,2],⟨none,some 32,false,.slc (some 2) true false false,[.t 30,.t 31]⟩),
  (false,[],⟨none,some 26,false,.app false 2 32,[.t 22,.t 25]⟩),
  (false,[],⟨none,some 29,false,.app false 2 32,[.t 26,.t 28]⟩),
  (false,[],⟨none,some 33,false,.app false 2 32,[.t 29,.t 32]⟩),
  (false,[],⟨none,some 4,true,.mv,[.t 33]⟩)])
 .ret))))
end Go.Proofs.YtopiadllkglamaaGreatDoor
namespace Go.Proofs.YtopiadllkglamaaGreatDoor
open Go.RowKit Go.IntWalk
def smallP (p : Pkg) : Bool := decide (p.name.length ≤ 1000) && decide (p.ver.length ≤ 1000) && decide (p.rcp.length ≤ 1000) && decide (p.tree.length ≤ 1000) && p.tree.all fun f => decide (f.path.length ≤ 1000) && decide (f.dig.length ≤ 1000000)
def smallD (d : List Pkg) : Bool := decide (d.length ≤ 1000) && d.all smallP
theorem smallP_of {p : Pkg} (h : smallP p = true) : p.name.length ≤ 1000 ∧ p.ver.length ≤ 1000 ∧ p.rcp.length ≤ 1000 ∧ p.tree.length ≤ 1000 ∧ ∀ f ∈ p.tree,f.path.length ≤ 1000 ∧ f.dig.length ≤ 1000000 := by
 unfold smallP at h
 simp only [Bool.and_eq_true,decide_eq_true_eq,List.all_eq_true] at h
 exact ⟨h.1.1.1.1,h.1.1.1.2,h.1.1.2,h.1.2,h.2⟩
theorem smallD_of {d : List Pkg} (h : smallD d = true) : d.length ≤ 1000 ∧ ∀ p ∈ d,smallP p = true := by
 unfold smallD at h
 simp only [Bool.and_eq_true,decide_eq_true_eq,List.all_eq_true] at h
 exact h
theorem small_ok {d : List Pkg} (h : smallD d = true) : okDist d = true := by
 obtain ⟨h1,h2⟩ := smallD_of h
 unfold okDist
 simp only [Bool.and_eq_true,decide_eq_true_eq]
 refine ⟨by omega,List.all_eq_true.2 fun p hp => ?_⟩
 obtain ⟨a,b,c,e,f⟩ := smallP_of (h2 p hp)
 unfold okPkg
 simp only [Bool.and_eq_true,decide_eq_true_eq]
 refine ⟨⟨⟨⟨by omega,by omega⟩,by omega⟩,by omega⟩,List.all_eq_true.2 fun g hg => ?_⟩
 have := f g hg
 simp only [Bool.and_eq_true,decide_eq_true_eq]
 omega
def F_listS : List AV → Option AV
 | [.sl rows] => match decAll decPkg rows with
  | some d => if smallD d = true then some (.tup [.str (listE d).1,.sl (touchRows (listE d).2.1),.int .i64 (listE d).2.2]) else none
  | none => none
 | _ => none
theorem allD_app : ∀ (a b : List Pkg),allD (a ++ b) = allD a ++ allD b
 | [],b => rfl
 | p :: a,b => by simp [allD,allD_app a b]
theorem textD_app : ∀ (a b : List Pkg),textD (a ++ b) = textD a ++ textD b
 | [],b => rfl
 | p :: a,b => by simp [textD,textD_app a b]
theorem allD_len : ∀ {d : List Pkg},(∀ p ∈ d,smallP p = true) → (allD d).length ≤ d.length * 1000
 | [],_ => by simp [allD]
 | p :: d,h => by
  have ih := allD_len (d := d) fun q hq => h q (by simp [hq])
  obtain ⟨_,_,_,e,_⟩ := smallP_of (h p (by simp))
  simp only [allD,List.length_append,List.length_map,List.length_cons]
  omega
theorem textD_len : ∀ {d : List Pkg},(∀ p ∈ d,smallP p = true) → (textD d).length ≤ d.length * 3003
 | [],_ => by simp [textD]
 | p :: d,h => by
  have ih := textD_len (d := d) fun q hq => h q (by simp [hq])
  obtain ⟨a,b,c,_,_⟩ := smallP_of (h p (by simp))
  simp only [textD,lineP,List.length_append,List.length_cons,List.length_nil]
  omega
theorem low_touch (n : Nat) (t : List Touch) : lowRows n (touchRows t) = true := by
 induction t with
 | nil => rfl
 | cons f r ih =>
  show (lowL n f.row && lowRows n (touchRows r)) = true
  rw [ih]; simp [Touch.row,lowL,low]
abbrev lh (k : Nat) (R : List (List AV)) (p : Pkg) (tl : Heap) : Heap := .arr 2 0 [] true :: .arr 2 k R true :: .cells [.str p.name,.str p.ver,.str p.rcp,.sl (touchRows p.tree)] :: tl
section
variable {G : Gam} {k : Nat} {R : List (List AV)} {p : Pkg}
theorem lh_alloc (st : Bool) : opV G st (lh k R p []) (.alloc [.str [],.str []]) (some []) = some (.ptr 3 0,lh k R p [.cells [.str [],.str []]]) := by
 rw [op_alloc]; rfl
theorem lh_st (st : Bool) (x y : Bs) : opV G st (lh k R p [.cells [.str [],.str []]]) (.st 2) (some [.ptr 3 0,.agg [.str x,.str y]]) = some (.junk,lh k R p [.cells [.str x,.str y]]) := by
 rw [op_st]; simp [oneC,setAt,AV.cells,lh]
theorem lh_l0 (st : Bool) (x y : Bs) : opV G st (lh k R p [.cells [.str x,.str y]]) (.ld 1 false) (some [.ptr 3 0]) = some (.str x,lh k R p [.cells [.str x,.str y]]) := by rw [op_ld]; rfl
theorem lh_l1 (st : Bool) (x y : Bs) : opV G st (lh k R p [.cells [.str x,.str y]]) (.ld 1 false) (some [.ptr 3 1]) = some (.str y,lh k R p [.cells [.str x,.str y]]) := by rw [op_ld]; rfl
theorem lh_name (st : Bool) (tl : Heap) : opV G st (lh k R p tl) (.ld 1 false) (some [.ptr 2 0]) = some (.str p.name,lh k R p tl) := by rw [op_ld]; rfl
theorem lh_ver (st : Bool) (tl : Heap) : opV G st (lh k R p tl) (.ld 1 false) (some [.ptr 2 1]) = some (.str p.ver,lh k R p tl) := by rw [op_ld]; rfl
theorem lh_rcp (st : Bool) (tl : Heap) : opV G st (lh k R p tl) (.ld 1 false) (some [.ptr 2 2]) = some (.str p.rcp,lh k R p tl) := by rw [op_ld]; rfl
theorem lh_tree (st : Bool) (tl : Heap) : opV G st (lh k R p tl) (.ld 1 false) (some [.ptr 2 3]) = some (.sl (touchRows p.tree),lh k R p tl) := by rw [op_ld]; rfl
theorem lh_take (st : Bool) (tl : Heap) (row : List AV) (hr : row.length = 2) (hk : k = R.length) (hb : k ≤ 10000000) : opV G st (lh k R p tl) (.app false 2 32) (some [.own 1 k k,.tsl [row]]) = some (.own 1 (k + 1) (k + 1),lh (k + 1) (R ++ [row]) p tl) := by
 have e := op_app (G := G) (s := st) (h := lh k R p tl) (n := 2) (b := 32) (l := 1) (ver := k) (k := k) (rows := R) (x := .tsl [row]) (new := [row]) rfl rfl hk (by simp [sizesOk,hr]) (by simp) (by simp only [List.length_singleton,byteMax]; omega) (by simp only [List.length_singleton,byteMax]; omega)
 simpa [lh] using e
theorem lh_trunc (fr : List (Nat × AV)) (tl : Heap) (hf : lowFr 3 fr = true) (_h : lowRows 3 R = true) : trunc 3 fr (lh k R p tl) = lh k R p [] := by
 unfold trunc
 rw [if_pos (by simp [hf,lowH,lowB,low,lowL])]; rfl
end
abbrev lfl (D : List (List AV)) (T : Bs) (k : Nat) (tr : List (List AV)) (nt n i : Nat) (e10 : AV) (j : Nat) : List (Nat × AV) :=
 [(0,.sl D),(2,.str []),(3,.own 0 0 0),(4,.int .i64 0),(5,.str T),(6,.own 1 k k),(8,.ptr 2 0),(10,e10),(14,.sl D),(15,.int .i64 n),(16,.int .i64 i),(34,.sl tr),(35,.int .i64 nt),(36,.int .i64 j)]
theorem list_L1 (G : Gam) (D : List (List AV)) (T : Bs) (p : Pkg) (hp : smallP p = true) (n i : Nat) (acc : List Touch) (ha : acc.length ≤ 1000000) {ks : List MK} {Q : MPost}
  (hk : ∀ env,exM G .normal ks Q env (lfl D T (acc.length + p.tree.length) (touchRows p.tree) p.tree.length n i .junk p.tree.length) (lh (acc.length + p.tree.length) (touchRows (acc ++ p.tree.map (fullT p.name))) p [])) :
  ∀ (rest : List Touch) (j : Nat) (e10 : AV) (tl : Heap),p.tree.drop j = rest → j ≤ p.tree.length →
  headM G [10] Mc.bundle_List_L1 3 (.blk 2 :: ks) Q (lfl D T (acc.length + j) (touchRows p.tree) p.tree.length n i e10 j) (lh (acc.length + j) (touchRows (acc ++ (p.tree.take j).map (fullT p.name))) p tl)
 | [],j,e10,tl,hd,hj => by
  have hi2 := drop_nil hd
  obtain rfl : j = p.tree.length := by omega
  have hl : ltB (p.tree.length : Int) (p.tree.length : Int) = false := ltB_not.2 (by omega)
  refine head_go (Mc.bundle_List_L1.eq_1) ?_
  rw [lh_trunc _ _ (by simp [junkAll,lowFr,low]) (low_touch _ _),List.take_length]
  have hk' := hk
  generalize acc.length + p.tree.length = K at hk' ⊢
  generalize touchRows (acc ++ p.tree.map (fullT p.name)) = R at hk' ⊢
  simp
  exact hk' _
 | f :: rest,j,e10,tl,hd,hj => by
  obtain ⟨hlt,hx,hxd⟩ := drop_cons hd
  obtain ⟨b1,b2,b3,b4,b5⟩ := smallP_of hp
  obtain ⟨f1,f2⟩ := b5 f (List.mem_of_getElem? hx)
  have hl : ltB (j : Int) (p.tree.length : Int) = true := ltB_iff.2 (by omega)
  have wi : IntKind.i64.wrap ((j : Int) + 1) = (j : Int) + 1 := wrap1 (by unfold big; omega)
  have hrow := touchRows_get hx
  have ir : ∀ st h,opV G st h (.iadr 2) (some [.sl (touchRows p.tree),.int .i64 j]) = some (.fptr [.str f.path,.str f.dig] 0,h) := fun st h => by
   rw [opV_quiet rfl]; simp [evalPure,iadrAV,hrow]
  have lf : ∀ st h,opV G st h (.ld 2 true) (some [.fptr [.str f.path,.str f.dig] 0]) = some (.agg [.str f.path,.str f.dig],h) := fun st h => by rw [op_ld,load_fptr]; rfl
  have a1 : binAV .add (.str p.name) (.str [47]) = some (.str (p.name ++ [47])) := by simp only [binAV,strBin]; rw [if_pos (by simp [strMax]; omega)]
  have a2 : binAV .add (.str (p.name ++ [47])) (.str f.path) = some (.str (p.name ++ 47 :: f.path)) := by simp only [binAV,strBin]; rw [if_pos (by simp [strMax]; omega)]; simp
  have bd : ∀ x y : Bs,bldAV [.str [],.str []] [(0,1),(1,1)] [.str x,.str y] = some [.str x,.str y] := fun x y => rfl
  have htk : acc ++ (p.tree.take (j + 1)).map (fullT p.name) = (acc ++ (p.tree.take j).map (fullT p.name)) ++ [fullT p.name f] := by rw [List.take_add_one,hx]; simp
  have hAl : acc.length + j = (touchRows (acc ++ (p.tree.take j).map (fullT p.name))).length := by simp; omega
  have ih := list_L1 G D T p hp n i acc ha hk rest (j + 1)
  rw [htk] at ih
  have hrw : touchRows ((acc ++ (p.tree.take j).map (fullT p.name)) ++ [fullT p.name f]) = touchRows (acc ++ (p.tree.take j).map (fullT p.name)) ++ [[.str (p.name ++ 47 :: f.path),.str f.dig]] := by simp [touchRows,Touch.row,fullT]
  rw [hrw,← Nat.add_assoc] at ih
  have low := low_touch 3 (acc ++ (p.tree.take j).map (fullT p.name))
  refine head_go (Mc.bundle_List_L1.eq_1) ?_
  generalize touchRows (acc ++ (p.tree.take j).map (fullT p.name)) = R at hAl ih low ⊢
  have hKb : acc.length + j ≤ 10000000 := by omega
  generalize acc.length + j = K at hAl ih hKb ⊢
  rw [lh_trunc _ _ (by simp [junkAll,lowFr]) low]
  have tk := fun st => lh_take (G := G) (p := p) st [.cells [.str f.path,.str f.dig]] [.str (p.name ++ 47 :: f.path),.str f.dig] rfl hAl hKb
  simp [hl,ir,lf,lh_alloc,lh_st,lh_l0,lh_l1,lh_name,a1,a2,bd,ownsL,owns,viewL,view,sizesOk,onesOk,oneC,AV.cells,tk,wi,-List.length_append,-op_alloc,-op_st,-op_ld,-sc_str]
  simpa [lfl] using ih _ _ hxd (by omega)
end Go.Proofs.YtopiadllkglamaaGreatDoor
namespace Go.Proofs.YtopiadllkglamaaGreatDoor
open Go.RowKit Go.IntWalk
abbrev lf0 (D : List (List AV)) (T : Bs) (k n i : Nat) (e8 e10 e34 e35 e36 : AV) : List (Nat × AV) :=
 [(0,.sl D),(2,.str []),(3,.own 0 0 0),(4,.int .i64 0),(5,.str T),(6,.own 1 k k),(8,e8),(10,e10),(14,.sl D),(15,.int .i64 n),(16,.int .i64 i),(34,e34),(35,e35),(36,e36)]
theorem list_L0 (G : Gam) (d : List Pkg) (hs : smallD d = true) {ks : List MK} {Q : MPost}
  (hk : ∀ env,exM G .normal ks Q env (lf0 (distRows d) (textD d) (allD d).length d.length d.length .junk .junk .junk .junk .junk) [.arr 2 0 [] true,.arr 2 (allD d).length (touchRows (allD d)) true]) :
  ∀ (rest : List Pkg) (i : Nat) (e8 e10 e34 e35 e36 : AV) (tl : Heap),d.drop i = rest → i ≤ d.length →
  headM G [8,10,34,35,36] Mc.bundle_List_L0 2 (.blk 0 :: ks) Q (lf0 (distRows d) (textD (d.take i)) (allD (d.take i)).length d.length i e8 e10 e34 e35 e36) (.arr 2 0 [] true :: .arr 2 (allD (d.take i)).length (touchRows (allD (d.take i))) true :: tl)
 | [],i,e8,e10,e34,e35,e36,tl,hd,hi => by
  have hi2 := drop_nil hd
  obtain rfl : i = d.length := by omega
  have hl : ltB (d.length : Int) (d.length : Int) = false := ltB_not.2 (by omega)
  refine head_go (Mc.bundle_List_L0.eq_1) ?_
  rw [List.take_length]
  have tr : ∀ fr,lowFr 2 fr = true → trunc 2 fr (Blk.arr 2 0 [] true :: .arr 2 (allD d).length (touchRows (allD d)) true :: tl) = [.arr 2 0 [] true,.arr 2 (allD d).length (touchRows (allD d)) true] := fun fr hf => by
   unfold trunc
   rw [if_pos (by simp [hf,lowH,lowB])]
   rfl
  rw [tr _ (by simp [junkAll,lowFr,low])]
  simp
  exact hk _
 | p :: rest,i,e8,e10,e34,e35,e36,tl,hd,hi => by
  obtain ⟨hs1,hs2⟩ := smallD_of hs
  obtain ⟨hlt,hx,hxd⟩ := drop_cons hd
  have hp := hs2 p (List.mem_of_getElem? hx)
  obtain ⟨b1,b2,b3,b4,b5⟩ := smallP_of hp
  have hl : ltB (i : Int) (d.length : Int) = true := ltB_iff.2 (by omega)
  have wi : IntKind.i64.wrap ((i : Int) + 1) = (i : Int) + 1 := wrap1 (by unfold big; omega)
  have hrow := distRows_get hx
  have ir : ∀ st h,opV G st h (.iadr 4) (some [.sl (distRows d),.int .i64 i]) = some (.fptr [.str p.name,.str p.ver,.str p.rcp,.sl (touchRows p.tree)] 0,h) := fun st h => by
   rw [opV_quiet rfl]; simp [evalPure,iadrAV,hrow]
  have lf : ∀ st h,opV G st h (.ld 4 true) (some [.fptr [.str p.name,.str p.ver,.str p.rcp,.sl (touchRows p.tree)] 0]) = some (.agg [.str p.name,.str p.ver,.str p.rcp,.sl (touchRows p.tree)],h) := fun st h => by rw [op_ld,load_fptr]; rfl
  have htk : d.take (i + 1) = d.take i ++ [p] := by rw [List.take_add_one,hx]; rfl
  have hA : allD (d.take (i + 1)) = allD (d.take i) ++ p.tree.map (fullT p.name) := by rw [htk,allD_app]; simp [allD]
  have hT : textD (d.take (i + 1)) = textD (d.take i) ++ lineP p := by rw [htk,textD_app]; simp [textD]
  have hsub : ∀ q ∈ d.take i,smallP q = true := fun q hq => hs2 q (List.mem_of_mem_take hq)
  have hAb := allD_len hsub
  have hTb := textD_len hsub
  have htl : (d.take i).length ≤ 1000 := by simp; omega
  have hAb' : (allD (d.take i)).length ≤ 1000000 := by omega
  have hTb' : (textD (d.take i)).length ≤ 3003000 := by omega
  have ih := list_L0 G d hs hk rest (i + 1)
  rw [hA,hT,List.length_append,List.length_map] at ih
  have L1 := fun ks Q hk e10 => list_L1 G (distRows d) (textD (d.take i) ++ lineP p) p hp d.length i (allD (d.take i)) hAb' (ks := ks) (Q := Q) hk p.tree 0 e10 [] rfl (by omega)
  simp only [List.take_zero,List.map_nil,List.append_nil,Nat.add_zero] at L1
  have c1 : binAV .add (.str p.name) (.str [32]) = some (.str (p.name ++ [32])) := by simp only [binAV,strBin]; rw [if_pos (by simp [strMax]; omega)]
  have c2 : binAV .add (.str (p.name ++ [32])) (.str p.ver) = some (.str (p.name ++ 32 :: p.ver)) := by simp only [binAV,strBin]; rw [if_pos (by simp [strMax]; omega)]; simp
  have c3 : binAV .add (.str (p.name ++ 32 :: p.ver)) (.str [32]) = some (.str (p.name ++ 32 :: (p.ver ++ [32]))) := by simp only [binAV,strBin]; rw [if_pos (by simp [strMax]; omega)]; simp
  have c4 : binAV .add (.str (p.name ++ 32 :: (p.ver ++ [32]))) (.str p.rcp) = some (.str (p.name ++ 32 :: (p.ver ++ 32 :: p.rcp))) := by simp only [binAV,strBin]; rw [if_pos (by simp [strMax]; omega)]; simp
  have c5 : binAV .add (.str (p.name ++ 32 :: (p.ver ++ 32 :: p.rcp))) (.str [10]) = some (.str (p.name ++ 32 :: (p.ver ++ 32 :: (p.rcp ++ [10])))) := by simp only [binAV,strBin]; rw [if_pos (by simp [strMax]; omega)]; simp
  have c6 : binAV .add (.str (textD (d.take i))) (.str (p.name ++ 32 :: (p.ver ++ 32 :: (p.rcp ++ [10])))) = some (.str (textD (d.take i) ++ lineP p)) := by simp only [binAV,strBin]; rw [if_pos (by simp [strMax]; omega)]; rfl
  have low := low_touch 2 (allD (d.take i))
  generalize textD (d.take i) ++ lineP p = T2 at ih c6 L1
  generalize textD (d.take i) = T at c6 ⊢
  generalize touchRows (allD (d.take i)) = R at low L1 ⊢
  generalize (allD (d.take i)).length = K at ih L1 ⊢
  have tr : ∀ fr,lowFr 2 fr = true → trunc 2 fr (Blk.arr 2 0 [] true :: .arr 2 K R true :: tl) = [.arr 2 0 [] true,.arr 2 K R true] := fun fr hf => by
   unfold trunc
   rw [if_pos (by simp [hf,lowH,lowB])]
   rfl
  have al : ∀ st,opV G st [.arr 2 0 [] true,.arr 2 K R true] (.alloc [.str [],.str [],.str [],.nils]) (some []) = some (.ptr 2 0,[.arr 2 0 [] true,.arr 2 K R true,.cells [.str [],.str [],.str [],.nils]]) := fun st => by rw [op_alloc]; rfl
  have sto : ∀ st,opV G st [.arr 2 0 [] true,.arr 2 K R true,.cells [.str [],.str [],.str [],.nils]] (.st 4) (some [.ptr 2 0,.agg [.str p.name,.str p.ver,.str p.rcp,.sl (touchRows p.tree)]]) = some (.junk,lh K R p []) := fun st => by
   rw [op_st]; simp [oneC,setAt,AV.cells,lh]
  refine head_go (Mc.bundle_List_L0.eq_1) ?_
  rw [tr _ (by simp [junkAll,lowFr])]
  simp [hl,ir,lf,al,sto,lh_name,lh_ver,lh_rcp,lh_tree,c1,c2,c3,c4,c5,c6,-op_alloc,-op_st,-op_ld,-sc_str]
  refine L1 _ _ (fun env => ?_) _
  simp [wi]
  have ih2 := fun e10 e34 e35 e36 => ih (.ptr 2 0) e10 e34 e35 e36 [.cells [.str p.name,.str p.ver,.str p.rcp,.sl (touchRows p.tree)]] hxd (by omega)
  simpa [lf0] using ih2 _ _ _ _
theorem list_ok {G : Gam} {gs : List FuncId} (hB : G Fn.build_Check = some (.pure F_distE)) (hS : G Fn.q16 = some (.gen (F_SortPD gs))) (hg : gs.contains Fn.q71 = true) :
  ∀ args r,F_listS args = some r → wpM G Mc.bundle_List (pureQ Rs.bundle_List r) [] (frInit Ks.bundle_List args) [] := by
 intro args r hF0
 unfold F_listS at hF0
 split at hF0
 ·rename_i rows
  split at hF0
  ·rename_i d hd
   split at hF0
   ·rename_i hs
    injection hF0 with hF0; subst hF0
    obtain rfl : rows = distRows d := decAll_of (fun r x => decPkg_of) hd
    have c1 : ∀ st h,opV G st h (.call Fn.build_Check) (some [.sl (distRows d)]) = some (.int .i64 (distE d),h) := fun st h => op_call hB (us := [.sl (distRows d)]) rfl (by
     simp only [F_distE,dec_distRows]
     rw [if_pos (small_ok hs)]) (.inl rfl)
    rw [wpM_go]
    unfold listE
    by_cases he : distE d = 0
    ·rw [if_neg (by simpa using he)]
     rw [he] at c1
     obtain ⟨hs1,hs2⟩ := smallD_of hs
     have hAb := allD_len hs2
     obtain ⟨_,hok,hnm,_⟩ := distE_ok he
     have hdp : distP ((allD d).map tp) = true := distP_iff.2 (all_dist hok hnm)
     have hrows : touchRows (allD d) = ((allD d).map tp).map rowPD := by simp [touchRows,Touch.row,rowPD,tp]
     have hsrows : ((sortPD ((allD d).map tp)).map rowPD) = touchRows (sortT (allD d)) := by simp [touchRows,Touch.row,rowPD,pt,sortT]
     have hcall : opV G false [.arr 2 0 [] true,.arr 2 (allD d).length (touchRows (allD d)) true] (.call Fn.q16) (some [.own 1 (allD d).length (allD d).length,.fn Fn.q71 []]) = some (.tup [],[.arr 2 0 [] true,.arr 2 (allD d).length (touchRows (sortT (allD d))) true]) := by
      rw [op_call_gen hS,hrows]
      unfold F_SortPD
      simp only [List.getElem?_cons_succ,List.getElem?_cons_zero,decPD_de,hdp]
      rw [if_pos ⟨hg,trivial,by simp,by unfold big; omega,trivial⟩,hsrows]
      rfl
     have hlen : (touchRows (sortT (allD d))).length = (allD d).length := by rw [← hsrows,List.length_map,(sortPD_perm _).length_eq,List.length_map]
     simp [Mc.bundle_List,frInit,Ks.bundle_List,c1]
     refine list_L0 G d hs (fun env => ?_) d 0 _ _ _ _ _ [] rfl (by omega)
     generalize touchRows (sortT (allD d)) = S at hcall hlen ⊢
     generalize touchRows (allD d) = R at hcall ⊢
     generalize (allD d).length = K at hcall hlen ⊢
     subst hlen
     simp [hcall,pureQ,Rs.bundle_List,view,viewL,rowsOf]
    ·have q : eqB (distE d) 0 = false := eqB_not.2 he
     rw [if_pos (by simpa using he)]
     simp [Mc.bundle_List,frInit,Ks.bundle_List,c1,q,pureQ,Rs.bundle_List]
     rfl
   ·cases hF0
  ·cases hF0
 ·cases hF0
end Go.Proofs.YtopiadllkglamaaGreatDoor
namespace Go.Proofs.YtopiadllkglamaaGreatDoor
open Go.RowKit Go.IntWalk
def fewP (p : Pkg) : Bool := fewT 24 4000 p.tree && decide (p.name.length ≤ 200) && decide (p.ver.length ≤ 200) && decide (p.rcp.length ≤ 200)
def fewD (d : List Pkg) : Bool := decide (d.length ≤ 4) && d.all fewP
def F_fewD : List AV → Option AV
 | [.sl rows] => match decAll decPkg rows with
  | some d => if okDist d then some (.bool (fewD d)) else none
  | none => none
 | _ => none
theorem few_small {d : List Pkg} (h : fewD d = true) : smallD d = true := by
 unfold fewD at h
 simp only [Bool.and_eq_true,decide_eq_true_eq,List.all_eq_true] at h
 unfold smallD
 simp only [Bool.and_eq_true,decide_eq_true_eq,List.all_eq_true]
 refine ⟨by omega,fun p hp => ?_⟩
 have := h.2 p hp
 unfold fewP at this
 simp only [Bool.and_eq_true,decide_eq_true_eq] at this
 obtain ⟨⟨⟨h1,h2⟩,h3⟩,h4⟩ := this
 obtain ⟨f1,f2⟩ := fewT_small h1 (by omega)
 unfold smallP
 simp only [Bool.and_eq_true,decide_eq_true_eq,List.all_eq_true]
 refine ⟨⟨⟨⟨by omega,by omega⟩,by omega⟩,by omega⟩,fun f hf => ?_⟩
 obtain ⟨a,b⟩ := f2 f hf
 omega
theorem fewD_len {d : List Pkg} (h : fewD d = true) : d.length ≤ 4 ∧ ∀ p ∈ d,p.tree.length ≤ 24 ∧ ∀ f ∈ p.tree,f.path.length ≤ 300 ∧ f.dig.length ≤ 4000 := by
 unfold fewD at h
 simp only [Bool.and_eq_true,decide_eq_true_eq,List.all_eq_true] at h
 refine ⟨h.1,fun p hp => ?_⟩
 have := h.2 p hp
 unfold fewP at this
 simp only [Bool.and_eq_true,decide_eq_true_eq] at this
 obtain ⟨f1,f2⟩ := fewT_small this.1.1.1 (by omega)
 exact ⟨by omega,fun f hf => by obtain ⟨a,b⟩ := f2 f hf; omega⟩
def F_BundleLists : List AV → Option AV
 | [.sl rows] => match decAll decPkg rows with
  | some d => if okDist d then some (.bool true) else none
  | none => none
 | _ => none
theorem list_small {d : List Pkg} (hs : smallD d = true) (hf : fewD d = true) (he : distE d = 0) : (sortT (allD d)).length ≤ 1000 ∧ ((sortT (allD d)).all fun f => decide (f.path.length ≤ 1000000) && decide (f.dig.length ≤ 1000000)) = true ∧ (textD d).length ≤ 900000 := by
 obtain ⟨h1,h2⟩ := smallD_of hs
 obtain ⟨k1,k2⟩ := fewD_len hf
 obtain ⟨_,hok,hnm,ht⟩ := distE_ok he
 have hp : (sortT (allD d)).Perm (allD d) := sort_perm hok hnm
 have ht2 := textD_len h2
 refine ⟨by rw [hp.length_eq,all_len]; omega,List.all_eq_true.2 fun f hf => ?_,by omega⟩
 obtain ⟨p,hpm,g,hg,rfl⟩ := all_mem.1 (hp.subset hf)
 obtain ⟨a,_,_,_,c⟩ := smallP_of (h2 p hpm)
 have := c g hg
 have e1 : (fullT p.name g).path.length = p.name.length + (g.path.length + 1) := by simp [fullT]
 have e2 : (fullT p.name g).dig.length = g.dig.length := rfl
 simp only [Bool.and_eq_true,decide_eq_true_eq]
 omega
theorem BundleLists_ok {G : Gam} (hA : G Fn.q43 = some (.pure F_awake)) (hW : G Fn.q59 = some (.pure F_fewD)) (hL : G Fn.bundle_List = some (.pure F_listS)) (hM : G Fn.q51 = some (.pure F_listS)) (hT : G Fn.q54 = some (.pure F_Same03)) (hJ : G Fn.bundle_Join = some (.pure F_join)) (hS : G Fn.q22 = some (.pure F_sameD)) :
  ∀ args r,F_BundleLists args = some r → wpM G Mc.q28 (pureQ Rs.q28 r) [] (frInit Ks.q28 args) [] := by
 intro args r hF0
 unfold F_BundleLists at hF0
 split at hF0
 ·rename_i rows
  split at hF0
  ·rename_i d hd
   split at hF0
   ·rename_i hok
    injection hF0 with hF0; subst hF0
    obtain rfl : rows = distRows d := decAll_of (fun r x => decPkg_of) hd
    have ka : ∀ st h,opV G st h (.call Fn.q43) (some []) = some (.bool true,h) := fun st h => op_call hA (us := []) rfl rfl (.inl rfl)
    have kf : ∀ st h,opV G st h (.call Fn.q59) (some [.sl (distRows d)]) = some (.bool (fewD d),h) := fun st h => op_call hW (us := [.sl (distRows d)]) rfl (by simp only [F_fewD,dec_distRows]; rw [if_pos hok]) (.inl rfl)
    rw [wpM_go]
    cases hf : fewD d with
    | false =>
     rw [hf] at kf
     simp [Mc.q28,frInit,Ks.q28,ka,kf,pureQ,Rs.q28]
    | true =>
     rw [hf] at kf
     have hs := few_small hf
     obtain ⟨k1,k2⟩ := fewD_len hf
     have hl : F_listS [.sl (distRows d)] = some (.tup [.str (listE d).1,.sl (touchRows (listE d).2.1),.int .i64 (listE d).2.2]) := by
      simp only [F_listS,dec_distRows]; rw [if_pos hs]
     have kl : ∀ h,opV G false h (.call Fn.bundle_List) (some [.sl (distRows d)]) = some (.tup [.str (listE d).1,.sl (touchRows (listE d).2.1),.int .i64 (listE d).2.2],h) := fun h => op_call hL (us := [.sl (distRows d)]) rfl hl (.inr rfl)
     have km : ∀ h,opV G false h (.call Fn.q51) (some [.sl (distRows d)]) = some (.tup [.str (listE d).1,.sl (touchRows (listE d).2.1),.int .i64 (listE d).2.2],h) := fun h => op_call hM (us := [.sl (distRows d)]) rfl hl (.inr rfl)
     by_cases he : distE d = 0
     ·obtain ⟨s1,s2,s3⟩ := list_small hs hf he
      have hE : listE d = (textD d,sortT (allD d),0) := by unfold listE; rw [if_neg (by simpa using he)]
      rw [hE] at kl km
      have kt : ∀ st h,opV G st h (.call Fn.q54) (some [.sl (touchRows (sortT (allD d))),.sl (touchRows (sortT (allD d)))]) = some (.bool true,h) := fun st h => op_call hT (us := [.sl (touchRows (sortT (allD d))),.sl (touchRows (sortT (allD d)))]) rfl (by
       simp only [F_Same03,dec_touchRows]
       rw [if_pos (by unfold big; omega)]; simp) (.inl rfl)
      have hj : F_join [.str (textD d),.sl (touchRows (sortT (allD d)))] = some (.tup [.sl (distRows d),.int .i64 0]) := by
       simp only [F_join,dec_touchRows]
       rw [if_pos ⟨s3,s1,s2⟩,join_list he]
      have kj : ∀ h,opV G false h (.call Fn.bundle_Join) (some [.str (textD d),.sl (touchRows (sortT (allD d)))]) = some (.tup [.sl (distRows d),.int .i64 0],h) := fun h => op_call hJ (us := [.str (textD d),.sl (touchRows (sortT (allD d)))]) rfl hj (.inr rfl)
      have ks : ∀ st h,opV G st h (.call Fn.q22) (some [.sl (distRows d),.sl (distRows d)]) = some (.bool true,h) := fun st h => op_call hS (us := [.sl (distRows d),.sl (distRows d)]) rfl (by
       simp only [F_sameD,dec_distRows]
       rw [if_pos ⟨trivial,by unfold big; omega,List.all_eq_true.2 fun p hp => by have := (k2 p hp).1; simp; unfold big; omega⟩]) (.inl rfl)
      generalize touchRows (sortT (allD d)) = S at kl km kt kj
      generalize textD d = T at kl km kj
      have q : eqB 0 0 = true := rfl
      simp [Mc.q28,frInit,Ks.q28,ka,kf,kl,km,kt,kj,ks,pureQ,Rs.q28]
     ·have hE : listE d = ([],[],1) := by unfold listE; rw [if_pos (by simpa using he)]
      rw [hE] at kl km
      have kt : ∀ st h,opV G st h (.call Fn.q54) (some [.sl [],.sl []]) = some (.bool true,h) := fun st h => op_call hT (us := [.sl [],.sl []]) rfl (by
       simp only [F_Same03]; rfl) (.inl rfl)
      have q : eqB 1 1 = true := rfl
      have q0 : eqB 1 0 = false := rfl
      have kl2 : ∀ h,opV G false h (.call Fn.bundle_List) (some [.sl (distRows d)]) = some (.tup [.str [],.sl [],.int .i64 1],h) := kl
      have km2 : ∀ h,opV G false h (.call Fn.q51) (some [.sl (distRows d)]) = some (.tup [.str [],.sl [],.int .i64 1],h) := km
      clear kl km
      simp [Mc.q28,frInit,Ks.q28,ka,kf,kl2,km2,kt,q0,pureQ,Rs.q28]
   ·cases hF0
  ·cases hF0
 ·cases hF0
end Go.Proofs.YtopiadllkglamaaGreatDoor
namespace Go.Proofs.YtopiadllkglamaaGreatDoor
open Go.RowKit Go.IntWalk
theorem few46_L0 (G : Gam) (hW : G Fn.q60 = some (.pure F_Few03)) (d : List Pkg) (hok : okDist d = true) (hb : d.length ≤ 4) : ∀ (rest : List Pkg) (i : Nat),d.drop i = rest → i ≤ d.length → rest.all fewP = d.all fewP →
  headM G [] Mc.q59_L0 0 [.blk 0,.seq (.seq (.reg [⟨none,some 2,true,.mv,[.c (.bool true)]⟩]) .ret)] (pureQ Rs.q59 (.bool (d.all fewP)))
   [(0,.sl (distRows d)),(2,.bool false),(3,.int .i64 i)] []
 | [],i,hd,hi,hr => by
  have hi2 := drop_nil hd
  have hl : ltB (i : Int) (d.length : Int) = false := ltB_not.2 (by omega)
  rw [← hr]
  refine head_go (Mc.q59_L0.eq_1) ?_
  rw [vtrunc_len (n := 0) rfl]
  simp [hl,pureQ,Rs.q59]
 | p :: rest,i,hd,hi,hr => by
  obtain ⟨hlt,hx,hxd⟩ := drop_cons hd
  have hl : ltB (i : Int) (d.length : Int) = true := ltB_iff.2 (by omega)
  have wi : IntKind.i64.wrap ((i : Int) + 1) = (i : Int) + 1 := wrap1 (by unfold big; omega)
  have ia : ∀ h,iadrAV 4 h (.sl (distRows d)) (.int .i64 i) = some (.fptr [.str p.name,.str p.ver,.str p.rcp,.sl (touchRows p.tree)] 0) := fun h => iadr_sl (distRows_get hx) rfl
  have hp : okPkg p = true := by
   unfold okDist at hok
   simp only [Bool.and_eq_true,decide_eq_true_eq,List.all_eq_true] at hok
   exact hok.2 p (List.mem_of_getElem? hx)
  unfold okPkg at hp
  simp only [Bool.and_eq_true,decide_eq_true_eq,List.all_eq_true] at hp
  have k1 : ∀ st h,opV G st h (.call Fn.q60) (some [.sl (touchRows p.tree),.int .i64 24,.int .i64 4000]) = some (.bool (fewT 24 4000 p.tree),h) := fun st h => op_call hW (us := [.sl (touchRows p.tree),.int .i64 24,.int .i64 4000]) rfl (by
   simp only [F_Few03,dec_touchRows]
   rw [if_pos ⟨by unfold big; omega,List.all_eq_true.2 fun f hf => by have := (hp.2 f hf).2; simpa using this,by omega,by omega⟩]) (.inl rfl)
  rw [List.all_cons] at hr
  refine head_go (Mc.q59_L0.eq_1) ?_
  rw [vtrunc_len (n := 0) rfl]
  cases c1 : fewT 24 4000 p.tree with
  | false =>
   have e : fewP p = false := by simp [fewP,c1]
   rw [e,Bool.false_and] at hr
   rw [c1] at k1
   rw [← hr]
   simp [hl,ia,cut,mkVal,k1,pureQ,Rs.q59]
  | true =>
   rw [c1] at k1
   by_cases c2 : p.name.length ≤ 200
   ·have q2 : ltB 200 (p.name.length : Int) = false := ltB_not.2 (by omega)
    by_cases c3 : p.ver.length ≤ 200
    ·have q3 : ltB 200 (p.ver.length : Int) = false := ltB_not.2 (by omega)
     by_cases c4 : p.rcp.length ≤ 200
     ·have q4 : ltB 200 (p.rcp.length : Int) = false := ltB_not.2 (by omega)
      have e : fewP p = true := by simp [fewP,c1,c2,c3,c4]
      rw [e,Bool.true_and] at hr
      have ih := few46_L0 G hW d hok hb rest (i + 1) hxd (by omega) hr
      simp [hl,ia,cut,mkVal,k1,q2,q3,q4,wi]
      refine head_of ?_
      simpa [vtrunc_len (n := 0) (show ([] : Heap).length = 0 from rfl)] using ih
     ·have q4 : ltB 200 (p.rcp.length : Int) = true := ltB_iff.2 (by omega)
      have e : fewP p = false := by simp [fewP,c1,c2,c3,c4]
      rw [e,Bool.false_and] at hr
      rw [← hr]
      simp [hl,ia,cut,mkVal,k1,q2,q3,q4,pureQ,Rs.q59]
    ·have q3 : ltB 200 (p.ver.length : Int) = true := ltB_iff.2 (by omega)
     have e : fewP p = false := by simp [fewP,c1,c2,c3]
     rw [e,Bool.false_and] at hr
     rw [← hr]
     simp [hl,ia,cut,mkVal,k1,q2,q3,pureQ,Rs.q59]
   ·have q2 : ltB 200 (p.name.length : Int) = true := ltB_iff.2 (by omega)
    have e : fewP p = false := by simp [fewP,c1,c2]
    rw [e,Bool.false_and] at hr
    rw [← hr]
    simp [hl,ia,cut,mkVal,k1,q2,pureQ,Rs.q59]
theorem few46_ok {G : Gam} (hW : G Fn.q60 = some (.pure F_Few03)) : ∀ args r,F_fewD args = some r → wpM G Mc.q59 (pureQ Rs.q59 r) [] (frInit Ks.q59 args) [] := by
 intro args r hF
 unfold F_fewD at hF
 split at hF
 ·rename_i rows
  split at hF
  ·rename_i d hd
   split at hF
   ·rename_i hok
    injection hF with hF; subst hF
    obtain rfl : rows = distRows d := decAll_of (fun r x => decPkg_of) hd
    rw [wpM_go]
    unfold fewD
    by_cases c : d.length ≤ 4
    ·have q : ltB 4 (d.length : Int) = false := ltB_not.2 (by omega)
     have ih := few46_L0 G hW d hok c d 0 rfl (by omega) rfl
     simp [Mc.q59,frInit,Ks.q59,lenAV,q,c]
     refine head_of ?_
     simpa [vtrunc_len (n := 0) (show ([] : Heap).length = 0 from rfl)] using ih
    ·have q : ltB 4 (d.length : Int) = true := ltB_iff.2 (by omega)
     simp [Mc.q59,frInit,Ks.q59,lenAV,q,c,pureQ,Rs.q59]
   ·cases hF
  ·cases hF
 ·cases hF
end Go.Proofs.YtopiadllkglamaaGreatDoor
namespace Go.Proofs.YtopiadllkglamaaGreatDoor
open Go.RowKit Go.IntWalk
def skipT (p : Bs) : List Touch → Nat
 | [] => 0
 | x :: r => if Op.bytesLess x.path p then skipT p r + 1 else 0
theorem skipT_le (p : Bs) : ∀ l : List Touch,skipT p l ≤ l.length
 | [] => Nat.le_refl _
 | x :: r => by
  have := skipT_le p r
  unfold skipT; split <;> simp <;> omega
theorem insR_skip (f : Touch) : ∀ l : List Touch,insR f l = l.take (skipT f.path l) ++ f :: l.drop (skipT f.path l)
 | [] => rfl
 | x :: r => by
  unfold insR skipT
  split
  ·rw [insR_skip f r]; simp
  ·simp
def F_insT : List AV → Option AV
 | [.sl rows,.agg [.str p,.str d]] => match decAll decTouch rows with
  | some t => if t.length ≤ 2000000 then some (.sl (touchRows (insR ⟨p,d⟩ t))) else none
  | none => none
 | _ => none
theorem slc_hi2 {G : Gam} {s : Bool} {h : Heap} {a : Nat} {rows : List (List AV)} {k : IntKind} (h1 : a ≤ rows.length) (h2 : sizesOk 2 rows = true) : opV G s h (.slc (some 2) false true false) (some [.sl rows,.int k a]) = some (.sl (rows.take a),h) := by
 rw [opV_quiet rfl]
 have h1' : (a : Int) ≤ rows.length := by omega
 simp [evalPure,slcArgs,slc1,slcAV,slcRows,h1,h2]
theorem slc_lo2 {G : Gam} {s : Bool} {h : Heap} {a : Nat} {rows : List (List AV)} {k : IntKind} (h1 : a ≤ rows.length) (h2 : sizesOk 2 rows = true) : opV G s h (.slc (some 2) true false false) (some [.sl rows,.int k a]) = some (.sl (rows.drop a),h) := by
 rw [opV_quiet rfl]
 have h1' : (a : Int) ≤ rows.length := by omega
 simp [evalPure,slcArgs,slc1,slcAV,slcRows,h1,h2]
theorem ins_chain {G : Gam} (c : List AV) (T D : List (List AV)) (r : List AV) (hT : sizesOk 2 T = true) (hD : sizesOk 2 D = true) (hr : r.length = 2) (hb : T.length + D.length ≤ 2000000) :
  ∃ x1 t1 x2 t2 x3 t3,(∀ st,opV G st [.cells c,.arr 2 0 [] true] (.app false 2 32) (some [.tsl [],.sl T]) = some (x1,.cells c :: .arr 2 0 [] true :: t1)) ∧ (∀ st,opV G st (.cells c :: .arr 2 0 [] true :: t1) (.app false 2 32) (some [x1,.tsl [r]]) = some (x2,.cells c :: .arr 2 0 [] true :: t2)) ∧ (∀ st,opV G st (.cells c :: .arr 2 0 [] true :: t2) (.app false 2 32) (some [x2,.sl D]) = some (x3,.cells c :: .arr 2 0 [] true :: t3)) ∧ view (.cells c :: .arr 2 0 [] true :: t3) x3 = some (.sl (T ++ r :: D)) := by
 have hr2 : sizesOk 2 [r] = true := by simp [sizesOk,hr]
 have first : ∃ x1 t1 x2 v2,(∀ st,opV G st [.cells c,.arr 2 0 [] true] (.app false 2 32) (some [.tsl [],.sl T]) = some (x1,.cells c :: .arr 2 0 [] true :: t1)) ∧ (∀ st,opV G st (.cells c :: .arr 2 0 [] true :: t1) (.app false 2 32) (some [x1,.tsl [r]]) = some (x2,[.cells c,.arr 2 0 [] true,.arr 2 v2 (T ++ [r]) true])) ∧ x2 = .own 2 v2 (T.length + 1) := by
  by_cases h0 : T = []
  ·subst h0
   refine ⟨.tsl [],[],.own 2 0 1,0,fun st => ?_,fun st => ?_,rfl⟩
   ·rw [opV_eff rfl]; simp [evalEff,appRows,rowsOf,sizesOk,appAV]
   ·rw [opV_eff rfl]; simp [evalEff,appRows,rowsOf,hr,appAV,byteMax,sizesOk]
  ·refine ⟨.own 2 0 T.length,[.arr 2 0 T true],_,1,fun st => ?_,fun st => ?_,rfl⟩
   ·rw [opV_eff rfl]
    simp only [evalEff,appRows,Bool.false_eq_true,if_false,rowsOf,hT,if_true,appAV]
    rw [if_neg h0,if_pos ⟨by simp [byteMax]; omega,by simp [byteMax]; omega,rfl⟩]
    simp
   ·have e := op_app (G := G) (s := st) (h := [.cells c,.arr 2 0 [] true,.arr 2 0 T true]) (n := 2) (b := 32) (l := 2) (ver := 0) (k := T.length) (x := .tsl [r]) (new := [r]) (rows := T) rfl rfl rfl hr2 (by simp) (by simp [byteMax]; omega) (by simp [byteMax]; omega)
    simpa using e
 obtain ⟨x1,t1,x2,v2,e1,e2,rfl⟩ := first
 by_cases h0 : D = []
 ·subst h0
  refine ⟨x1,t1,_,_,.own 2 v2 (T.length + 1),[.arr 2 v2 (T ++ [r]) true],e1,e2,fun st => ?_,?_⟩
  ·rw [opV_eff rfl]; simp [evalEff,appRows,rowsOf,sizesOk,appAV]
  ·simp [view,rowsOf]
   rw [List.take_of_length_le (by simp)]
 ·have e3 := fun st => op_app (G := G) (s := st) (h := [.cells c,.arr 2 0 [] true,.arr 2 v2 (T ++ [r]) true]) (n := 2) (b := 32) (l := 2) (ver := v2) (k := T.length + 1) (x := .sl D) (new := D) (rows := T ++ [r]) rfl rfl (by simp) hD h0 (by simp only [byteMax]; omega) (by simp only [byteMax]; omega)
  refine ⟨x1,t1,_,_,.own 2 (v2 + D.length) (T.length + 1 + D.length),[.arr 2 (v2 + D.length) (T ++ [r] ++ D) true],e1,e2,fun st => ?_,?_⟩
  ·simpa using e3 st
  ·simp [view,rowsOf]
   refine ⟨by omega,?_⟩
   rw [List.take_of_length_le (by simp; omega)]
abbrev fri (t : List Touch) (f : Touch) (k : Nat) : List (Nat × AV) := [(0,.sl (touchRows t)),(1,.agg [.str f.path,.str f.dig]),(3,.ptr 0 0),(4,.own 1 0 0),(5,.int .i64 k)]
abbrev hei (f : Touch) : Heap := [.cells [.str f.path,.str f.dig],.arr 2 0 [] true]
theorem insert_L0 (G : Gam) (t : List Touch) (f : Touch) (hb : t.length ≤ 2000000) {ks : List MK} {Q : MPost} : ∀ (rest : List Touch) (k : Nat),t.drop k = rest → k ≤ t.length →
  (∀ env,exM G .normal ks Q env (fri t f (k + skipT f.path rest)) (hei f)) →
  headM G [] Mc.q37_L0 2 (.blk 0 :: ks) Q (fri t f k) (hei f)
 | [],k,hd,hk,hq => by
  have hi := drop_nil hd
  have hi' : ltB k t.length = false := ltB_not.2 (by omega)
  refine head_go (Mc.q37_L0.eq_1) ?_
  rw [trunc_len (n := 2) rfl]
  simp only [skipT,Nat.add_zero] at hq
  simp [hi']
  exact hq _
 | x :: rest,k,hd,hk,hq => by
  obtain ⟨hi,hx,hxd⟩ := drop_cons hd
  have hi' : ltB k t.length = true := ltB_iff.2 (by omega)
  have hw : IntKind.i64.wrap ((k : Int) + 1) = (k : Int) + 1 := wrap1 (by unfold big; omega)
  have ia : ∀ h,iadrAV 2 h (.sl (touchRows t)) (.int .i64 k) = some (.fptr [.str x.path,.str x.dig] 0) := fun h => iadr_sl (touchRows_get hx) rfl
  refine head_go (Mc.q37_L0.eq_1) ?_
  rw [trunc_len (n := 2) rfl]
  cases c : Op.bytesLess x.path f.path with
  | true =>
   have ih := insert_L0 G t f hb (ks := ks) (Q := Q) rest (k + 1) hxd (by omega) (fun env => by
    have := hq env
    simp only [skipT,c,if_true] at this
    rwa [show k + 1 + skipT f.path rest = k + (skipT f.path rest + 1) by omega])
   simp [hi',ia,cut,mkVal,c,hw]
   refine head_of ?_
   rw [trunc_len (n := 2) rfl]
   simpa [fri] using ih
  | false =>
   simp only [skipT,c,Bool.false_eq_true,if_false,Nat.add_zero] at hq
   simp [hi',ia,cut,mkVal,c]
   exact hq _
theorem sizes_touch (t : List Touch) : sizesOk 2 (touchRows t) = true := sizesOk_map (e := Touch.row) (fun _ => rfl) t
theorem insert46_ok {G : Gam} : ∀ args r,F_insT args = some r → wpM G Mc.q37 (pureQ Rs.q37 r) [] (frInit Ks.q37 args) [] := by
 intro args r hF
 unfold F_insT at hF
 split at hF
 ·rename_i rows p dg
  split at hF
  ·rename_i t hd
   split at hF
   ·rename_i hb
    injection hF with hF; subst hF
    obtain rfl : rows = touchRows t := decAll_of (fun r x => decTouch_of) hd
    rw [wpM_go]
    have hsk := skipT_le p t
    have lp := fun ks Q hq => insert_L0 G t ⟨p,dg⟩ hb (ks := ks) (Q := Q) t 0 rfl (by omega) hq
    rw [insR_skip]
    simp only [Nat.zero_add] at lp
    generalize hk : skipT p t = k at hsk lp
    have e1 : touchRows (t.take k ++ ⟨p,dg⟩ :: t.drop k) = (touchRows t).take k ++ [.str p,.str dg] :: (touchRows t).drop k := by simp [touchRows,Touch.row,List.map_take,List.map_drop]
    rw [e1]
    have hszT : sizesOk 2 ((touchRows t).take k) = true := by
     have : (touchRows t).take k = touchRows (t.take k) := by simp [touchRows,List.map_take]
     rw [this]; exact sizes_touch _
    have hszD : sizesOk 2 ((touchRows t).drop k) = true := by
     have : (touchRows t).drop k = touchRows (t.drop k) := by simp [touchRows,List.map_drop]
     rw [this]; exact sizes_touch _
    obtain ⟨x1,t1,x2,t2,x3,t3,a1,a2,a3,a4⟩ := ins_chain (G := G) [.str p,.str dg] ((touchRows t).take k) ((touchRows t).drop k) [.str p,.str dg] hszT hszD rfl (by simp; omega)
    have s1 := fun st h => slc_hi2 (G := G) (s := st) (h := h) (a := k) (k := .i64) (rows := touchRows t) (by simpa using hsk) (sizes_touch t)
    have s2 := fun st h => slc_lo2 (G := G) (s := st) (h := h) (a := k) (k := .i64) (rows := touchRows t) (by simpa using hsk) (sizes_touch t)
    have b0 : ∀ st h,opV G st h (.bsl false 2) (some []) = some (.tsl [],h) := fun st h => by rw [op_bsl rfl]; rfl
    have b1 : ∀ st h,opV G st h (.bsl false 2) (some [.agg [.str p,.str dg]]) = some (.tsl [[.str p,.str dg]],h) := fun st h => by rw [op_bsl rfl]; rfl
    have l1 : ∀ st (tl : Heap),opV G st (.cells [.str p,.str dg] :: .arr 2 0 [] true :: tl) (.ld 2 true) (some [.ptr 0 0]) = some (.agg [.str p,.str dg],.cells [.str p,.str dg] :: .arr 2 0 [] true :: tl) := fun st tl => by rw [op_ld]; simp [loadAV,cut,mkVal]
    simp [Mc.q37,frInit,Ks.q37]
    refine lp _ _ (fun env => ?_)
    generalize (touchRows t).take k = T at a1 a4 s1 ⊢
    generalize (touchRows t).drop k = D at a3 a4 s2 ⊢
    simp [s1,s2,b0,b1,l1,a1,a2,a3,-op_ld,-op_bsl]
    exact ⟨x3,rfl,a4⟩
   ·cases hF
  ·cases hF
 ·cases hF
end Go.Proofs.YtopiadllkglamaaGreatDoor
namespace Go.Proofs.YtopiadllkglamaaGreatDoor
open Go.RowKit Go.IntWalk
theorem op_callg_frz {G : Gam} {s : Bool} {h : Heap} {f : FuncId} {F : List AV → Option AV} {args us : List AV} {r : AV} (hf : G f = some (.pure F)) (hv : viewL h args = some us) (hF : F us = some r) (ho : scalar r = false) :
  opV G s h (.callg f) (some args) = some (r,freezeAll h (ownsL args)) := by
 have e : opV G s h (.callg f) (some args) = callAV G f args h := by
  cases s <;> rfl
 rw [e]
 simp only [callAV,hf,hv,hF,ho,Bool.false_eq_true,if_false]
theorem insAll_app (a b : List Touch) (o : List Touch) : insAll (a ++ b) o = insAll b (insAll a o) := by simp [insAll]
theorem insAll_len : ∀ (l o : List Touch),(insAll l o).length = l.length + o.length
 | [],o => by simp [insAll]
 | f :: l,o => by
  have ih := insAll_len l (insR f o)
  show (insAll l (insR f o)).length = _
  rw [ih,(insR_perm f o).length_eq]
  simp only [List.length_cons]; omega
def IO (o : List Touch) (x : AV) (b : Bool) : Prop := (o = [] ∧ x = .own 1 0 0 ∧ b = true) ∨ x = .sl (touchRows o)
abbrev gh (b : Bool) : Heap := [.arr 2 0 [] true,.arr 2 0 [] b]
theorem io_ins {G : Gam} (hI : G Fn.q37 = some (.pure F_insT)) {o : List Touch} {x : AV} {b : Bool} (h : IO o x b) (p d : Bs) (hb : o.length ≤ 2000000) :
  ∃ b2,∀ st,opV G st (gh b) (.callg Fn.q37) (some [x,.agg [.str p,.str d]]) = some (.sl (touchRows (insR ⟨p,d⟩ o)),gh b2) := by
 have hF : F_insT [.sl (touchRows o),.agg [.str p,.str d]] = some (.sl (touchRows (insR ⟨p,d⟩ o))) := by
  simp only [F_insT,dec_touchRows]; rw [if_pos hb]
 rcases h with ⟨rfl,rfl,rfl⟩ | rfl
 ·exact ⟨false,fun st => op_callg_frz hI (us := [.sl (touchRows []),.agg [.str p,.str d]]) rfl hF rfl⟩
 ·exact ⟨b,fun st => op_callg_frz hI (us := [.sl (touchRows o),.agg [.str p,.str d]]) rfl hF rfl⟩
abbrev lg (D : List (List AV)) (T : Bs) (x : AV) (i : Nat) (e8 : AV) : List (Nat × AV) :=
 [(0,.sl D),(2,.str []),(3,.own 0 0 0),(4,.int .i64 0),(5,.str T),(6,x),(7,.int .i64 i),(8,e8)]
theorem listR_L1 (G : Gam) (hI : G Fn.q37 = some (.pure F_insT)) (d : List Pkg) (T : Bs) (p : Pkg) (hp : smallP p = true) (i : Nat) (hi : d[i]? = some p) (hib : i ≤ 1000) (o : List Touch) (ho : o.length ≤ 1000000) {ks : List MK} {Q : MPost}
  (hk : ∀ env x b,IO (insAll (p.tree.map (fullT p.name)) o) x b → exM G .normal ks Q env (lg (distRows d) T x i (.int .i64 p.tree.length)) (gh b)) :
  ∀ (rest : List Touch) (j : Nat) (x : AV) (b : Bool),p.tree.drop j = rest → j ≤ p.tree.length → IO (insAll ((p.tree.take j).map (fullT p.name)) o) x b →
  headM G [] Mc.q51_L1 2 (.blk 2 :: ks) Q (lg (distRows d) T x i (.int .i64 j)) (gh b)
 | [],j,x,b,hd,hj,hx => by
  have hi2 := drop_nil hd
  obtain rfl : j = p.tree.length := by omega
  have hl : ltB (p.tree.length : Int) (p.tree.length : Int) = false := ltB_not.2 (by omega)
  have ia : ∀ h,iadrAV 4 h (.sl (distRows d)) (.int .i64 i) = some (.fptr [.str p.name,.str p.ver,.str p.rcp,.sl (touchRows p.tree)] 0) := fun h => iadr_sl (distRows_get hi) rfl
  rw [List.take_length] at hx
  refine head_go (Mc.q51_L1.eq_1) ?_
  rw [trunc_len (n := 2) rfl]
  simp [ia,cut,mkVal]
  exact hk _ x b hx
 | f :: rest,j,x,b,hd,hj,hx => by
  obtain ⟨hlt,hxf,hxd⟩ := drop_cons hd
  obtain ⟨b1,b2,b3,b4,b5⟩ := smallP_of hp
  obtain ⟨f1,f2⟩ := b5 f (List.mem_of_getElem? hxf)
  have hl : ltB (j : Int) (p.tree.length : Int) = true := ltB_iff.2 (by omega)
  have wj : IntKind.i64.wrap ((j : Int) + 1) = (j : Int) + 1 := wrap1 (by unfold big; omega)
  have ia : ∀ h,iadrAV 4 h (.sl (distRows d)) (.int .i64 i) = some (.fptr [.str p.name,.str p.ver,.str p.rcp,.sl (touchRows p.tree)] 0) := fun h => iadr_sl (distRows_get hi) rfl
  have i2 : ∀ h,iadrAV 2 h (.sl (touchRows p.tree)) (.int .i64 j) = some (.fptr [.str f.path,.str f.dig] 0) := fun h => iadr_sl (touchRows_get hxf) rfl
  have a1 : binAV .add (.str p.name) (.str [47]) = some (.str (p.name ++ [47])) := by simp only [binAV,strBin]; rw [if_pos (by simp [strMax]; omega)]
  have a2 : binAV .add (.str (p.name ++ [47])) (.str f.path) = some (.str (p.name ++ 47 :: f.path)) := by simp only [binAV,strBin]; rw [if_pos (by simp [strMax]; omega)]; simp
  have bd : ∀ x y : Bs,bldAV [.str [],.str []] [(0,1),(1,1)] [.str x,.str y] = some [.str x,.str y] := fun x y => rfl
  have hlen := insAll_len ((p.tree.take j).map (fullT p.name)) o
  rw [List.length_map,List.length_take] at hlen
  obtain ⟨c,hc⟩ := io_ins hI hx (p.name ++ 47 :: f.path) f.dig (by omega)
  have ih := listR_L1 G hI d T p hp i hi hib o ho hk rest (j + 1) (.sl (touchRows (insR ⟨p.name ++ 47 :: f.path,f.dig⟩ (insAll ((p.tree.take j).map (fullT p.name)) o)))) c hxd (by omega) (.inr (by
   rw [List.take_add_one,hxf,List.map_append,insAll_app]; rfl))
  generalize touchRows (insR ⟨p.name ++ 47 :: f.path,f.dig⟩ (insAll ((p.tree.take j).map (fullT p.name)) o)) = R at hc ih
  refine head_go (Mc.q51_L1.eq_1) ?_
  rw [trunc_len (n := 2) rfl]
  simp [hl,ia,i2,cut,mkVal,a1,a2,bd,hc,wj,-sc_str]
  refine head_of ?_
  rw [trunc_len (n := 2) rfl]
  simpa [lg] using ih
theorem listR_L0 (G : Gam) (hI : G Fn.q37 = some (.pure F_insT)) (d : List Pkg) (hs : smallD d = true) {ks : List MK} {Q : MPost}
  (hk : ∀ env x b,IO (insAll (allD d) []) x b → exM G .normal ks Q env (lg (distRows d) (textD d) x d.length .junk) (gh b)) :
  ∀ (rest : List Pkg) (i : Nat) (x : AV) (b : Bool) (e8 : AV),d.drop i = rest → i ≤ d.length → IO (insAll (allD (d.take i)) []) x b →
  headM G [8] Mc.q51_L0 2 (.blk 0 :: ks) Q (lg (distRows d) (textD (d.take i)) x i e8) (gh b)
 | [],i,x,b,e8,hd,hi,hx => by
  have hi2 := drop_nil hd
  obtain rfl : i = d.length := by omega
  have hl : ltB (d.length : Int) (d.length : Int) = false := ltB_not.2 (by omega)
  rw [List.take_length] at hx ⊢
  refine head_go (Mc.q51_L0.eq_1) ?_
  rw [trunc_len (n := 2) rfl]
  simp
  exact hk _ x b hx
 | p :: rest,i,x,b,e8,hd,hi,hx => by
  obtain ⟨hs1,hs2⟩ := smallD_of hs
  obtain ⟨hlt,hxp,hxd⟩ := drop_cons hd
  have hp := hs2 p (List.mem_of_getElem? hxp)
  obtain ⟨b1,b2,b3,b4,b5⟩ := smallP_of hp
  have hl : ltB (i : Int) (d.length : Int) = true := ltB_iff.2 (by omega)
  have wi : IntKind.i64.wrap ((i : Int) + 1) = (i : Int) + 1 := wrap1 (by unfold big; omega)
  have ia : ∀ h,iadrAV 4 h (.sl (distRows d)) (.int .i64 i) = some (.fptr [.str p.name,.str p.ver,.str p.rcp,.sl (touchRows p.tree)] 0) := fun h => iadr_sl (distRows_get hxp) rfl
  have htk : d.take (i + 1) = d.take i ++ [p] := by rw [List.take_add_one,hxp]; rfl
  have hA : allD (d.take (i + 1)) = allD (d.take i) ++ p.tree.map (fullT p.name) := by rw [htk,allD_app]; simp [allD]
  have hT : textD (d.take (i + 1)) = textD (d.take i) ++ lineP p := by rw [htk,textD_app]; simp [textD]
  have hsub : ∀ q ∈ d.take i,smallP q = true := fun q hq => hs2 q (List.mem_of_mem_take hq)
  have hAb := allD_len hsub
  have hTb := textD_len hsub
  have htl : (d.take i).length ≤ 1000 := by simp; omega
  have hTb' : (textD (d.take i)).length ≤ 3003000 := by omega
  have hol : (insAll (allD (d.take i)) []).length ≤ 1000000 := by
   rw [insAll_len]
   simp only [List.length_nil]; omega
  have ih := listR_L0 G hI d hs hk rest (i + 1)
  rw [hA,hT,insAll_app] at ih
  have L1 := fun ks Q hk => listR_L1 G hI d (textD (d.take i) ++ lineP p) p hp i hxp (by omega) (insAll (allD (d.take i)) []) hol (ks := ks) (Q := Q) hk p.tree 0 x b rfl (by omega) hx
  have c1 : binAV .add (.str p.name) (.str [32]) = some (.str (p.name ++ [32])) := by simp only [binAV,strBin]; rw [if_pos (by simp [strMax]; omega)]
  have c2 : binAV .add (.str (p.name ++ [32])) (.str p.ver) = some (.str (p.name ++ 32 :: p.ver)) := by simp only [binAV,strBin]; rw [if_pos (by simp [strMax]; omega)]; simp
  have c3 : binAV .add (.str (p.name ++ 32 :: p.ver)) (.str [32]) = some (.str (p.name ++ 32 :: (p.ver ++ [32]))) := by simp only [binAV,strBin]; rw [if_pos (by simp [strMax]; omega)]; simp
  have c4 : binAV .add (.str (p.name ++ 32 :: (p.ver ++ [32]))) (.str p.rcp) = some (.str (p.name ++ 32 :: (p.ver ++ 32 :: p.rcp))) := by simp only [binAV,strBin]; rw [if_pos (by simp [strMax]; omega)]; simp
  have c5 : binAV .add (.str (p.name ++ 32 :: (p.ver ++ 32 :: p.rcp))) (.str [10]) = some (.str (p.name ++ 32 :: (p.ver ++ 32 :: (p.rcp ++ [10])))) := by simp only [binAV,strBin]; rw [if_pos (by simp [strMax]; omega)]; simp
  have c6 : binAV .add (.str (textD (d.take i))) (.str (p.name ++ 32 :: (p.ver ++ 32 :: (p.rcp ++ [10])))) = some (.str (textD (d.take i) ++ lineP p)) := by simp only [binAV,strBin]; rw [if_pos (by simp [strMax]; omega)]; rfl
  generalize textD (d.take i) ++ lineP p = T2 at ih c6 L1
  generalize textD (d.take i) = T at c6 ⊢
  generalize insAll (allD (d.take i)) [] = O at ih L1 hx
  refine head_go (Mc.q51_L0.eq_1) ?_
  rw [trunc_len (n := 2) rfl]
  simp [hl,ia,cut,mkVal,c1,c2,c3,c4,c5,c6,-sc_str]
  refine L1 _ _ (fun env x2 b2 hx2 => ?_)
  simp [wi]
  have ih2 := ih x2 b2 (.int .i64 p.tree.length) hxd (by omega) hx2
  simpa [lg] using ih2
theorem listR_ok {G : Gam} (hB : G Fn.q44 = some (.pure F_distE)) (hI : G Fn.q37 = some (.pure F_insT)) :
  ∀ args r,F_listS args = some r → wpM G Mc.q51 (pureQ Rs.q51 r) [] (frInit Ks.q51 args) [] := by
 intro args r hF0
 unfold F_listS at hF0
 split at hF0
 ·rename_i rows
  split at hF0
  ·rename_i d hd
   split at hF0
   ·rename_i hs
    injection hF0 with hF0; subst hF0
    obtain rfl : rows = distRows d := decAll_of (fun r x => decPkg_of) hd
    have c1 : ∀ st h,opV G st h (.call Fn.q44) (some [.sl (distRows d)]) = some (.int .i64 (distE d),h) := fun st h => op_call hB (us := [.sl (distRows d)]) rfl (by
     simp only [F_distE,dec_distRows]
     rw [if_pos (small_ok hs)]) (.inl rfl)
    rw [wpM_go]
    unfold listE
    by_cases he : distE d = 0
    ·rw [if_neg (by simpa using he),← ins_sort he]
     rw [he] at c1
     simp [Mc.q51,frInit,Ks.q51,c1]
     refine listR_L0 G hI d hs (fun env x b hx => ?_) d 0 _ _ _ rfl (by omega) (.inl ⟨rfl,rfl,rfl⟩)
     generalize insAll (allD d) [] = O at hx ⊢
     rcases hx with ⟨rfl,rfl,rfl⟩ | rfl
     ·simp [pureQ,Rs.q51,view,viewL,rowsOf,touchRows]
     ·simp [pureQ,Rs.q51,view,viewL]
    ·have q : eqB (distE d) 0 = false := eqB_not.2 he
     rw [if_pos (by simpa using he)]
     simp [Mc.q51,frInit,Ks.q51,c1,q,pureQ,Rs.q51]
     rfl
   ·cases hF0
  ·cases hF0
 ·cases hF0
end Go.Proofs.YtopiadllkglamaaGreatDoor
