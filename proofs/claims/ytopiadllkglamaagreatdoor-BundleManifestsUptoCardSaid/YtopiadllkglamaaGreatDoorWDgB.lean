/- Distributions: whether they are right; the text of their packages and their sources; what is joined: plain laws. Manifests: what is written is read: plain laws,over any digest of 32 bytes. strings.Bu -/
import Derived.Test.YtopiadllkglamaaGreatDoorWRmD
import Derived.Test.YtopiadllkglamaaGreatDoorWRmJ
import Derived.Test.YtopiadllkglamaaGreatDoorWPkC
import Derived.Test.YtopiadllkglamaaGreatDoorWRdB
import Derived.Test.YtopiadllkglamaaGreatDoorWDgA
import Derived.Test.YtopiadllkglamaaGreatDoorWAm10
import Derived.Test.YtopiadllkglamaaGreatDoorWRmA
namespace Go.Proofs.YtopiadllkglamaaGreatDoor
open Go.RowKit Go.IntWalk
structure Pkg where
 name : Bs
 ver : Bs
 rcp : Bs
 tree : List Touch
def pt (x : PD) : Touch := ⟨x.1,x.2⟩
theorem yU4 {s : Bs} (h : zl6 s = true) : s ≠ [] ∧ ∀ b ∈ s,b ≠ 47 ∧ b ≠ 32 ∧ b ≠ 10 := by
 match s,h with
 | [],h => simp [zl6] at h
 | c :: r,h =>
  simp only [zl6,Bool.and_eq_true] at h
  refine ⟨by simp,fun b hb => ?_⟩
  have := List.all_eq_true.1 h.2 b hb
  refine ⟨?_,?_,?_⟩ <;> (intro e; subst e; revert this; decide)
theorem zK8 (c : UInt8) : ∀ (s : Bs) (b : UInt8),b ∈ s → b ≠ c → ∃ w ∈ za9 c s,b ∈ w
 | [],b,h,_ => by cases h
 | x :: r,b,h,hne => by
  have ih := zK8 c r b
  unfold za9
  split
  ·rename_i e
   rcases List.mem_cons.1 h with rfl | h
   ·exact absurd (by simpa using e) hne
   ·obtain ⟨w,h1,h2⟩ := ih h hne
    exact ⟨w,List.mem_cons_of_mem _ h1,h2⟩
  ·cases hs : za9 c r with
   | nil => exact absurd hs (zq2 c r)
   | cons p ps =>
    rcases List.mem_cons.1 h with rfl | h
    ·exact ⟨b :: p,by simp,by simp⟩
    ·obtain ⟨w,h1,h2⟩ := ih h hne
     rw [hs] at h1
     rcases List.mem_cons.1 h1 with rfl | h1
     ·exact ⟨x :: w,by simp,by simp [h2]⟩
     ·exact ⟨w,by simp [h1],h2⟩
theorem zO8 {s : Bs} (h : zf1 s = true) : s ≠ [] ∧ ∀ b ∈ s,b ≠ 32 ∧ b ≠ 10 := by
 have h2 : (za9 47 s).all zl6 = true := by
  unfold zf1 at h
  simp only [Bool.and_eq_true] at h
  exact h.2
 refine ⟨fun e => ?_,fun b hb => ?_⟩
 ·subst e; simp [za9,zl6] at h2
 ·by_cases e : b = 47
  ·subst e; decide
  ·obtain ⟨w,h3,h4⟩ := zK8 47 s b hb e
   have := (yU4 (List.all_eq_true.1 h2 w h3)).2 b h4
   exact this.2
theorem yf1 {n p : Bs} : (n ++ [47]).isPrefixOf p = true ↔ ∃ r,p = n ++ 47 :: r := by
 rw [List.isPrefixOf_iff_prefix]
 constructor
 ·rintro ⟨r,rfl⟩; exact ⟨r,by simp⟩
 ·rintro ⟨r,rfl⟩; exact ⟨r,by simp⟩
def zT9 (a b : Touch) : Prop := a.path < b.path ∧ zn8 b.path a.path = false
theorem zR9 : ∀ (t pre : List Touch),pre.Pairwise zT9 → (zm8 pre t = 0 ↔ (∀ f ∈ t,zf1 f.path = true ∧ f.dig.length ≤ 65536) ∧ (pre ++ t).Pairwise zT9)
 | [],pre,hp => by simp [zm8,hp]
 | f :: r,pre,hp => by
  rw [zm8]
  by_cases h1 : zf1 f.path = false
  ·rw [if_pos h1]
   constructor
   ·intro h; cases h
   ·rintro ⟨h,_⟩; have := (h f (by simp)).1; rw [h1] at this; cases this
  ·rw [if_neg h1]
   by_cases h2 : 65536 < f.dig.length
   ·rw [if_pos h2]
    constructor
    ·intro h; cases h
    ·rintro ⟨h,_⟩; have := (h f (by simp)).2; omega
   ·rw [if_neg h2]
    by_cases h3 : (pre.getLast?.map fun g => Op.bytesLess g.path f.path) = some false
    ·rw [if_pos h3]
     constructor
     ·intro h; cases h
     ·rintro ⟨_,h⟩
      obtain ⟨g,hg,hl⟩ := Option.map_eq_some_iff.1 h3
      have hb := (List.pairwise_append.1 h).2.2 g (List.mem_of_getLast? hg) f (by simp)
      rw [bytesLess_eq] at hl
      have := of_decide_eq_false hl
      exact absurd hb.1 this
    ·rw [if_neg h3]
     have hall : ∀ g ∈ pre,g.path < f.path := by
      intro g hg
      cases hl : pre.getLast? with
      | none => rw [List.getLast?_eq_none_iff] at hl; subst hl; cases hg
      | some z =>
       rw [hl] at h3
       have hz : z.path < f.path := by
        simp only [Option.map_some,Option.some.injEq] at h3
        rw [bytesLess_eq] at h3
        simpa using h3
       obtain ⟨ys,rfl⟩ := List.getLast?_eq_some_iff.1 hl
       rcases List.mem_append.1 hg with hg | hg
       ·exact List.lt_trans ((List.pairwise_append.1 hp).2.2 g hg z (by simp)).1 hz
       ·obtain rfl : g = z := by simpa using hg
        exact hz
     by_cases h4 : pre.any (fun g => zn8 f.path g.path) = true
     ·rw [if_pos h4]
      constructor
      ·intro h; cases h
      ·rintro ⟨_,h⟩
       obtain ⟨g,hg,hb⟩ := List.any_eq_true.1 h4
       have := ((List.pairwise_append.1 h).2.2 g hg f (by simp)).2
       rw [hb] at this; cases this
     ·rw [if_neg h4]
      have hp2 : (pre ++ [f]).Pairwise zT9 := by
       rw [List.pairwise_append]
       refine ⟨hp,by simp,fun a ha b hb => ?_⟩
       obtain rfl : b = f := by simpa using hb
       refine ⟨hall a ha,?_⟩
       cases hc : zn8 b.path a.path with
       | false => rfl
       | true => exact absurd (List.any_eq_true.2 ⟨a,ha,hc⟩) h4
      rw [zR9 r (pre ++ [f]) hp2,List.append_assoc]
      simp only [List.singleton_append]
      constructor
      ·rintro ⟨a,b⟩
       refine ⟨fun g hg => ?_,b⟩
       rcases List.mem_cons.1 hg with rfl | hg
       ·exact ⟨by simpa using h1,by omega⟩
       ·exact a g hg
      ·rintro ⟨a,b⟩
       exact ⟨fun g hg => a g (List.mem_cons_of_mem _ hg),b⟩
theorem zW4 {t : List Touch} : zr8 t = 0 ↔ t.length ≤ 64 ∧ (∀ f ∈ t,zf1 f.path = true ∧ f.dig.length ≤ 65536) ∧ t.Pairwise zT9 := by
 unfold zr8
 by_cases h : 64 < t.length
 ·rw [if_pos h]
  constructor
  ·intro h; cases h
  ·rintro ⟨a,_⟩; omega
 ·rw [if_neg h,zR9 t [] .nil]
  simp only [List.nil_append]
  constructor
  ·rintro ⟨a,b⟩; exact ⟨by omega,a,b⟩
  ·rintro ⟨_,a,b⟩; exact ⟨a,b⟩
theorem xB2 : ∀ {a b : Bs},zn8 b a = true → a < b := by
 intro a b h
 obtain ⟨r,rfl⟩ := yf1.1 h
 induction a with
 | nil => simp
 | cons c a ih => simpa using ih (yf1.2 ⟨r,rfl⟩)
theorem tree_below {t : List Touch} (h : zr8 t = 0) {f g : Touch} (hf : f ∈ t) (hg : g ∈ t) : zn8 f.path g.path = false := by
 obtain ⟨_,_,hp⟩ := zW4.1 h
 cases hb : zn8 f.path g.path with
 | false => rfl
 | true =>
  exfalso
  have hlt := xB2 hb
  obtain ⟨i,hi⟩ := List.mem_iff_getElem?.1 hf
  obtain ⟨j,hj⟩ := List.mem_iff_getElem?.1 hg
  obtain ⟨hi1,hi2⟩ := List.getElem?_eq_some_iff.1 hi
  obtain ⟨hj1,hj2⟩ := List.getElem?_eq_some_iff.1 hj
  have hpw := List.pairwise_iff_getElem.1 hp
  rcases Nat.lt_trichotomy i j with h1 | h1 | h1
  ·have := (hpw i j hi1 hj1 h1).1
   rw [hi2,hj2] at this
   exact List.lt_irrefl _ (List.lt_trans this hlt)
  ·subst h1
   rw [hi2] at hj2; subst hj2
   exact List.lt_irrefl _ hlt
  ·have := (hpw j i hj1 hi1 h1).2
   rw [hi2,hj2,hb] at this
   cases this
structure PkgOK (p : Pkg) : Prop where
 name : zl6 p.name = true
 ver : zl6 p.ver = true
 tree : zr8 p.tree = 0
 path : ∀ f ∈ p.tree,zf1 (p.name ++ 47 :: f.path) = true
 rcp : ∃ f ∈ p.tree,f.path = p.rcp
section
variable {d : List Pkg} (hok : ∀ p ∈ d,PkgOK p) (hnm : d.Pairwise (fun p q => p.name ≠ q.name))
include hok hnm
end
end Go.Proofs.YtopiadllkglamaaGreatDoor
namespace Go.Proofs.YtopiadllkglamaaGreatDoor
open Go.RowKit Go.IntWalk
def hexE : Bs → Bs
 | [] => []
 | b :: r => zd6 (b.toNat / 16) :: zd6 (b.toNat % 16) :: hexE r
theorem zp5 : ∀ s : Bs,(hexE s).length = 2 * s.length
 | [] => rfl
 | b :: r => by simp only [hexE,List.length_cons,zp5 r]; omega
theorem zv9 : ∀ n : Fin 16,zf6 (zd6 n.val) = n.val ∧ zd6 n.val ≠ 32 ∧ zd6 n.val ≠ 10 := by decide
theorem ys0 : ∀ d : Bs,zy3 (hexE d) = some d
 | [] => rfl
 | b :: r => by
  have hb := b.toNat_lt
  have h1 := (zv9 ⟨b.toNat / 16,by omega⟩).1
  have h2 := (zv9 ⟨b.toNat % 16,by omega⟩).1
  simp only at h1 h2
  simp only [hexE,zy3,h1,h2,ys0 r]
  rw [if_neg (by omega)]
  simp only [Option.map_some,Int.toNat_natCast]
  rw [show 16 * (b.toNat / 16) + b.toNat % 16 = b.toNat by omega]
  simp
theorem xE5 : ∀ d : Bs,∀ b ∈ hexE d,b ≠ 32 ∧ b ≠ 10
 | [],b,h => by cases h
 | c :: r,b,h => by
  have hb := c.toNat_lt
  obtain ⟨_,h1,h2⟩ := zv9 ⟨c.toNat / 16,by omega⟩
  obtain ⟨_,h3,h4⟩ := zv9 ⟨c.toNat % 16,by omega⟩
  simp only at h1 h2 h3 h4
  simp only [hexE,List.mem_cons] at h
  rcases h with rfl | rfl | h
  ·exact ⟨h1,h2⟩
  ·exact ⟨h3,h4⟩
  ·exact xE5 r b h
set_option maxRecDepth 100000 in
theorem xf6 : ∀ n : Fin 256,0 ≤ zf6 (UInt8.ofNat n.val) → UInt8.ofNat n.val ≠ 32 ∧ UInt8.ofNat n.val ≠ 10 := by decide
theorem yK0 : ∀ (s d : Bs),zy3 s = some d → ∀ b ∈ s,b ≠ 32 ∧ b ≠ 10
 | [],_,_,b,h => by cases h
 | [_],_,hd,_,_ => by simp [zy3] at hd
 | x :: y :: r,d,hd,b,h => by
  simp only [zy3] at hd
  split at hd
  ·cases hd
  ·rename_i hn
   obtain ⟨d2,h2,_⟩ := Option.map_eq_some_iff.1 hd
   have key : ∀ c : UInt8,0 ≤ zf6 c → c ≠ 32 ∧ c ≠ 10 := fun c hc => by
    have := xf6 ⟨c.toNat,c.toNat_lt⟩
    simp only [UInt8.ofNat_toNat] at this
    exact this hc
   simp only [List.mem_cons] at h
   rcases h with rfl | rfl | h
   ·exact key _ (by omega)
   ·exact key _ (by omega)
   ·exact yK0 r d2 h2 b h
theorem xm7 {s : Bs} (h : (zd9 s).2 = 0) : s ≠ [] ∧ ∀ b ∈ s,b ≠ 32 ∧ b ≠ 10 := by
 unfold zd9 at h
 split at h
 ·rename_i hl
  cases hu : zy3 s with
  | none => rw [hu] at h; cases h
  | some d => exact ⟨fun e => (by rw [e] at hl; cases hl),yK0 s d hu⟩
 ·cases h
theorem yz3 : ∀ (k n : Nat),n < k → ∀ b ∈ Lib.decDigits n,b ≠ 32 ∧ b ≠ 10
 | 0,n,h,_,_ => by omega
 | k + 1,n,h,b,hb => by
  have small : ∀ m,m < 10 → UInt8.ofNat (48 + m) ≠ 32 ∧ UInt8.ofNat (48 + m) ≠ 10 := fun m hm => by
   constructor <;> (intro e; have := congrArg UInt8.toNat e; rw [UInt8.toNat_ofNat'] at this; simp at this; omega)
  by_cases h1 : n < 10
  ·rw [zm7 h1] at hb
   obtain rfl : b = UInt8.ofNat (48 + n) := by simpa using hb
   exact small n h1
  ·rw [ya7 h1,zm7 (n := n % 10) (by omega)] at hb
   rcases List.mem_append.1 hb with hb | hb
   ·exact yz3 k (n / 10) (by omega) b hb
   ·obtain rfl : b = UInt8.ofNat (48 + n % 10) := by simpa using hb
    exact small (n % 10) (by omega)
section
variable (ds : Bs → Bs)
def zM8 (w : Bs) (f : Touch) : Bs := w ++ 32 :: (f.path ++ 32 :: (Lib.itoa f.dig.length ++ 32 :: hexE (ds f.dig)))
def zi8 (w : Bs) : List Touch → Bs
 | [] => []
 | f :: r => zM8 ds w f ++ 10 :: zi8 w r
def frow (w : Bs) (f : Touch) : List Bs := [w,f.path,Lib.itoa f.dig.length,hexE (ds f.dig)]
def manT (o hx : Bs) (pap src : List Touch) : Bs := (zm3 ++ 32 :: o) ++ 10 :: ((zm4 ++ 32 :: hx) ++ 10 :: (zi8 ds ze9 pap ++ zi8 ds zd1 src))
def manE (o hx : Bs) (pap src : List Touch) : Bs × Int :=
 if zf1 o = false then ([],2) else if (zd9 hx).2 ≠ 0 then ([],4) else if zr8 pap ≠ 0 ∨ zr8 src ≠ 0 then ([],1) else (manT ds o hx pap src,0)
variable (hds : ∀ d,(ds d).length = 32)
include hds
theorem yV7 {w : Bs} {f : Touch} (hw : w ≠ [] ∧ (32 : UInt8) ∉ w ∧ (10 : UInt8) ∉ w) (hp : zf1 f.path = true) :
  za9 32 (zM8 ds w f) = frow ds w f ∧ (frow ds w f).contains [] = false ∧ (10 : UInt8) ∉ zM8 ds w f := by
 obtain ⟨p1,p2⟩ := zO8 hp
 have hi : Lib.itoa (f.dig.length : Int) = Lib.decDigits f.dig.length := by rw [zA7 (by omega)]; simp
 have hd := yz3 (f.dig.length + 1) f.dig.length (by omega)
 have hx := xE5 (ds f.dig)
 have n1 := xF7 f.dig.length
 have n2 : hexE (ds f.dig) ≠ [] := fun e => by have := zp5 (ds f.dig); rw [e,hds] at this; simp at this
 refine ⟨?_,?_,?_⟩
 ·unfold zM8 frow
  rw [hi,zo2 32 w _ hw.2.1,zo2 32 f.path _ (fun h => (p2 32 h).1 rfl),zo2 32 _ _ (fun h => (hd 32 h).1 rfl),zr9 32 _ (fun h => (hx 32 h).1 rfl)]
 ·unfold frow
  rw [hi]
  simp [Ne.symm hw.1,Ne.symm p1,Ne.symm n1,Ne.symm n2]
 ·unfold zM8
  rw [hi]
  intro hm
  simp only [List.mem_append,List.mem_cons] at hm
  rcases hm with hm | hm | hm | hm | hm | hm | hm
  ·exact hw.2.2 hm
  ·exact absurd hm (by decide)
  ·exact (p2 10 hm).2 rfl
  ·exact absurd hm (by decide)
  ·exact (hd 10 hm).2 rfl
  ·exact absurd hm (by decide)
  ·exact (hx 10 hm).2 rfl
theorem zI7 {w : Bs} (hw : w ≠ [] ∧ (32 : UInt8) ∉ w ∧ (10 : UInt8) ∉ w) (rest : Bs) : ∀ {l : List Touch},(∀ f ∈ l,zf1 f.path = true) → zA1 (zi8 ds w l ++ rest) = (zA1 rest).map (l.map (frow ds w) ++ ·)
 | [],_ => by simp [zi8]
 | f :: r,h => by
  have ih := zI7 hw rest (l := r) fun g hg => h g (by simp [hg])
  obtain ⟨h1,h2,h3⟩ := yV7 ds hds hw (h f (by simp))
  have e : zi8 ds w (f :: r) ++ rest = zM8 ds w f ++ 10 :: (zi8 ds w r ++ rest) := by simp [zi8]
  rw [e,zL3 h3,h1,h2,ih]
  cases zA1 rest <;> simp
theorem xl4 {w : Bs} {f : Touch} (hp : zf1 f.path = true) (hl : f.dig.length ≤ 65536) : ze2 (frow ds w f) = true := by
 have h1 : yk6 (Lib.itoa (f.dig.length : Int)) = true := (xa1 _).2 ⟨f.dig.length,hl,by rw [zA7 (by omega)]; simp⟩
 have h2 : (zd9 (hexE (ds f.dig))).2 = 0 := by unfold zd9; rw [if_pos (by rw [zp5,hds]),ys0]
 simp only [frow,ze2,hp,h1,h2,decide_true,Bool.and_self]
theorem yK7 (rest : List (List Bs)) : ∀ (l : List Touch) (np : Nat) (lp : Bs),np + l.length ≤ 64 → (∀ f ∈ l,zf1 f.path = true ∧ f.dig.length ≤ 65536) → l.Pairwise (fun a b => a.path < b.path) → (∀ f ∈ l,lp < f.path) →
  ∃ lp',zp1 ze2 ⟨np,0,lp,[]⟩ (l.map (frow ds ze9) ++ rest) = zp1 ze2 ⟨np + l.length,0,lp',[]⟩ rest
 | [],np,lp,_,_,_,_ => ⟨lp,by simp⟩
 | f :: r,np,lp,hn,hf,hs,hl => by
  obtain ⟨s1,s2⟩ := List.pairwise_cons.1 hs
  obtain ⟨lp',ih⟩ := yK7 rest r (np + 1) f.path (by simp at hn; omega) (fun g hg => hf g (by simp [hg])) s2 s1
  refine ⟨lp',?_⟩
  obtain ⟨f1,f2⟩ := hf f (by simp)
  have hok : ze2 (ze9 :: [f.path,Lib.itoa f.dig.length,hexE (ds f.dig)]) = true := xl4 ds hds (w := ze9) f1 f2
  have hlt : Op.bytesLess lp f.path = true := by rw [Go.Proofs.bytesLess_eq]; exact decide_eq_true (hl f (by simp))
  have hne : ¬ np = 64 := by simp at hn; omega
  have key : zp1 ze2 ⟨np,0,lp,[]⟩ ((ze9 :: [f.path,Lib.itoa f.dig.length,hexE (ds f.dig)]) :: (r.map (frow ds ze9) ++ rest)) = zp1 ze2 ⟨np + 1,0,f.path,[]⟩ (r.map (frow ds ze9) ++ rest) := by
   rw [yE4 (ok := ze2) (sd := ⟨np,0,lp,[]⟩) rfl]
   simp [hok,hlt,hne]
  have e2 : np + 1 + r.length = np + (f :: r).length := by simp; omega
  rw [e2] at ih
  exact key.trans ih
theorem yK6 : ∀ (l : List Touch) (np ns : Nat) (lp ls : Bs),ns + l.length ≤ 64 → (∀ f ∈ l,zf1 f.path = true ∧ f.dig.length ≤ 65536) → l.Pairwise (fun a b => a.path < b.path) → (∀ f ∈ l,ls < f.path) →
  zp1 ze2 ⟨np,ns,lp,ls⟩ (l.map (frow ds zd1)) = true
 | [],np,ns,lp,ls,_,_,_,_ => by simp [zp1]
 | f :: r,np,ns,lp,ls,hn,hf,hs,hl => by
  obtain ⟨s1,s2⟩ := List.pairwise_cons.1 hs
  have ih := yK6 r np (ns + 1) lp f.path (by simp at hn; omega) (fun g hg => hf g (by simp [hg])) s2 s1
  obtain ⟨f1,f2⟩ := hf f (by simp)
  have hok : ze2 (zd1 :: [f.path,Lib.itoa f.dig.length,hexE (ds f.dig)]) = true := xl4 ds hds (w := zd1) f1 f2
  have hlt : Op.bytesLess ls f.path = true := by rw [Go.Proofs.bytesLess_eq]; exact decide_eq_true (hl f (by simp))
  have hne : ¬ ns = 64 := by simp at hn; omega
  have key : zp1 ze2 ⟨np,ns,lp,ls⟩ ((zd1 :: [f.path,Lib.itoa f.dig.length,hexE (ds f.dig)]) :: r.map (frow ds zd1)) = zp1 ze2 ⟨np,ns + 1,lp,f.path⟩ (r.map (frow ds zd1)) := by
   rw [yE3]
   simp [hok,hlt,hne]
  exact key.trans ih
theorem xv0 {o hx : Bs} {pap src : List Touch} (h : (manE ds o hx pap src).2 = 0) : yT9 (manE ds o hx pap src).1 = some (o,hx) := by
 unfold manE at h ⊢
 split
 ·rename_i h1; rw [if_pos h1] at h; cases h
 ·rename_i h1
  rw [if_neg h1] at h
  split
  ·rename_i h2; rw [if_pos h2] at h; cases h
  ·rename_i h2
   rw [if_neg h2] at h
   split
   ·rename_i h3; rw [if_pos h3] at h; cases h
   ·rename_i h3
    have ho : zf1 o = true := by simpa using h1
    have hd : (zd9 hx).2 = 0 := by simpa using h2
    obtain ⟨t1,t2⟩ : zr8 pap = 0 ∧ zr8 src = 0 := by simpa [not_or] using h3
    obtain ⟨a1,a2,a3⟩ := zW4.1 t1
    obtain ⟨b1,b2,b3⟩ := zW4.1 t2
    obtain ⟨o1,o2⟩ := zO8 ho
    obtain ⟨x1,x2⟩ := xm7 hd
    have hp : ze9 ≠ [] ∧ (32 : UInt8) ∉ ze9 ∧ (10 : UInt8) ∉ ze9 := by decide
    have hq : zd1 ≠ [] ∧ (32 : UInt8) ∉ zd1 ∧ (10 : UInt8) ∉ zd1 := by decide
    have rw1 := zI7 ds hds hp (zi8 ds zd1 src) (l := pap) fun f hf => (a2 f hf).1
    have rw2 := zI7 ds hds hq [] (l := src) fun f hf => (b2 f hf).1
    rw [List.append_nil] at rw2
    have rw3 : zA1 [] = some [] := rfl
    rw [rw3,Option.map_some,List.append_nil] at rw2
    rw [rw2,Option.map_some] at rw1
    have l1 : (10 : UInt8) ∉ zm3 ++ 32 :: o := fun hm => by
     simp only [List.mem_append,List.mem_cons] at hm
     rcases hm with hm | hm | hm
     ·exact absurd hm (by decide)
     ·exact absurd hm (by decide)
     ·exact (o2 10 hm).2 rfl
    have l2 : (10 : UInt8) ∉ zm4 ++ 32 :: hx := fun hm => by
     simp only [List.mem_append,List.mem_cons] at hm
     rcases hm with hm | hm | hm
     ·exact absurd hm (by decide)
     ·exact absurd hm (by decide)
     ·exact (x2 10 hm).2 rfl
    have s1 : za9 32 (zm3 ++ 32 :: o) = [zm3,o] := by rw [zo2 32 zm3 o (by decide),zr9 32 o (fun h => (o2 32 h).1 rfl)]
    have s2 : za9 32 (zm4 ++ 32 :: hx) = [zm4,hx] := by rw [zo2 32 zm4 hx (by decide),zr9 32 hx (fun h => (x2 32 h).1 rfl)]
    have c1 : ([zm3,o] : List Bs).contains [] = false := by
     have : zm3 ≠ [] := by decide
     simp [Ne.symm this,Ne.symm o1]
    have c2 : ([zm4,hx] : List Bs).contains [] = false := by
     have : zm4 ≠ [] := by decide
     simp [Ne.symm this,Ne.symm x1]
    have hr : zA1 (manT ds o hx pap src) = some ([zm3,o] :: [zm4,hx] :: (pap.map (frow ds ze9) ++ src.map (frow ds zd1))) := by
     unfold manT
     rw [zL3 l1,s1,c1,zL3 l2,s2,c2,rw1]; rfl
    unfold yT9
    rw [hr]
    have hh : zu5 ([zm3,o] :: [zm4,hx] :: (pap.map (frow ds ze9) ++ src.map (frow ds zd1))) = some (o,hx,pap.map (frow ds ze9) ++ src.map (frow ds zd1)) := by simp [zu5,ho,hd]
    simp only [hh,Option.bind_some]
    have pos : ∀ f : Touch,zf1 f.path = true → ([] : Bs) < f.path := fun f hf => by
     have := (zO8 hf).1
     cases hfp : f.path with
     | nil => exact absurd hfp this
     | cons c r => simp
    obtain ⟨lp',e⟩ := yK7 ds hds (src.map (frow ds zd1)) pap 0 [] (by omega) a2 (a3.imp fun {a b} h => h.1) (fun f hf => pos f (a2 f hf).1)
    rw [e,yK6 ds hds src _ 0 lp' [] (by omega) b2 (b3.imp fun {a b} h => h.1) (fun f hf => pos f (b2 f hf).1)]
    rfl
end
end Go.Proofs.YtopiadllkglamaaGreatDoor
namespace Go.Proofs.YtopiadllkglamaaGreatDoor
open Go.RowKit
section
variable {G : Gam} {s : Bool} {h : Heap}
theorem ym7 {f : FuncId} {F : List AV → Heap → Option (AV × Heap)} {args : List AV} (hf : G f = some (.gen F)) : opV G s h (.callg f) (some args) = F args h := by
 rw [zi1 rfl]; simp only [zb1,zl8,hf]
end
def yb5 (p : Nat) : AV → Bool
 | .nilp => true
 | .ptr q 0 => decide (q = p)
 | _ => false
def xd6 (T e : TypeId) (h : Heap) (p l v n : Nat) (rows : List (List AV)) (s : Bs) : Heap :=
 (h.set p (.cellsT (some T) [.ptr p 0,.own l (v + s.length) (n + s.length)])).set l (.arrT (some e) 1 (v + s.length) (rows ++ s.map zc7) true)
def yd1 (T e : TypeId) (h : Heap) (p : Nat) (s : Bs) : Option Heap :=
 match h[p]? with
 | some (.cellsT tg [a,.own l v n]) => match h[l]? with
  | some (.arrT te 1 v' rows true) => if tg = some T ∧ te = some e ∧ yb5 p a = true ∧ v = v' ∧ n = rows.length ∧ n + s.length ≤ zb9 then some (xd6 T e h p l v n rows s) else none
  | _ => none
 | _ => none
def zv2 (T e : TypeId) : List AV → Heap → Option (AV × Heap)
 | [.ptr p 0,.int .u8 c],h => if 0 ≤ c ∧ c < 256 then (yd1 T e h p [UInt8.ofNat c.toNat]).map fun h' => (.nili,h') else none
 | _,_ => none
def zG3 (e : TypeId) : List AV → Heap → Option (AV × Heap)
 | [.ptr p 0],h => match h[p]? with
  | some (.cellsT _ [_,.own l v n]) => match h[l]? with
   | some (.arrT te 1 v' rows true) => if te = some e ∧ v = v' ∧ n = rows.length ∧ n ≤ zb9 then (if n = 0 then some (.str [],h) else (ze6 rows).map fun bs => (.str bs,h.set l .dead)) else none
   | _ => none
  | _ => none
 | _,_ => none
theorem yR8 {T e : TypeId} {h h' : Heap} {p : Nat} {s : Bs} (hw : yd1 T e h p s = some h') : ∃ a l v rows,h[p]? = some (.cellsT (some T) [a,.own l v rows.length]) ∧ h[l]? = some (.arrT (some e) 1 v rows true) ∧ yb5 p a = true ∧ rows.length + s.length ≤ zb9 ∧ h' = xd6 T e h p l v rows.length rows s ∧ l ≠ p := by
 unfold yd1 at hw
 split at hw
 ·rename_i tg a l v n hp
  split at hw
  ·rename_i te v' rows hl
   split at hw
   ·rename_i hc
    obtain ⟨rfl,rfl,h1,rfl,rfl,h2⟩ := hc
    injection hw with hw
    exact ⟨a,l,v,rows,hp,hl,h1,h2,hw.symm,fun e => by subst e; rw [hp] at hl; cases hl⟩
   ·cases hw
  ·cases hw
 ·cases hw
theorem xA5 {h : Heap} {p : Nat} {a x : AV} (hp : h[p]? = some (.cellsT (some 146) [a,x])) (ha : yb5 p a = true) : zy0 [146,352] [.ptr p 0] h = some (.tup [],h.set p (.cellsT (some 146) [.ptr p 0,x])) := by
 cases a <;> first | (simp [yb5] at ha; done) | skip
 case nilp => simp [zy0,hp]
 case ptr q o =>
  cases o with
  | succ o => simp [yb5] at ha
  | zero =>
   simp only [yb5,decide_eq_true_eq] at ha
   subst ha
   simp [zy0,hp,zK9 hp]
theorem xq9 {G : Gam} {st : Bool} {e : TypeId} {h : Heap} {l v : Nat} {rows : List (List AV)} {x : AV} {str : Bool} {s : Bs} (hl : h[l]? = some (.arrT (some e) 1 v rows true)) (hx : zn5 h str x = some (s.map zc7)) (hb : rows.length + s.length ≤ zb9) :
  opV G st h (.appT str 1 1 e) (some [.own l v rows.length,x]) = some (.own l (v + s.length) (rows.length + s.length),h.set l (.arrT (some e) 1 (v + s.length) (rows ++ s.map zc7) true)) := by
 have hsz : zc3 1 (s.map zc7) = true := zI3 (e := zc7) (n := 1) (fun _ => rfl) s
 by_cases hs : s = []
 ·subst hs
  rw [zi1 rfl]
  simp only [zb1,hx,hsz,if_true,zQ6,hl]
  simp [zK9 hl]
 ·have := xK3 (G := G) (s := st) (e := e) hx hl rfl hsz (by simpa using hs) (by simpa using hb)
  simpa using this
theorem xw8 {T e : TypeId} {h : Heap} {p l v : Nat} {rows : List (List AV)} {s : Bs} {x : Blk} (hne : l ≠ p) :
  ((h.set p x).set l (.arrT (some e) 1 (v + s.length) (rows ++ s.map zc7) true)).set p (.cellsT (some T) [.ptr p 0,.own l (v + s.length) (rows.length + s.length)]) = xd6 T e h p l v rows.length rows s := by
 unfold xd6
 rw [List.set_comm _ _ hne,List.set_set]
theorem yB3 {G : Gam} (hC : G Fn.q18 = some (.gen (zy0 [146,352]))) : ∀ args h r h',zv2 146 5 args h = some (r,h') →
  wpM G Mc.q17 (genQ Rs.q17 r h') [] (za2 Ks.q17 args) h := by
 intro args h r h' hF
 unfold zv2 at hF
 split at hF
 ·rename_i p c
  split at hF
  ·rename_i hc
   simp only [Option.map_eq_some_iff,Prod.mk.injEq] at hF
   obtain ⟨h2,hw,rfl,rfl⟩ := hF
   obtain ⟨a,l,v,rows,hp,hl,ha,hb,rfl,hne⟩ := yR8 hw
   have hpl := (List.getElem?_eq_some_iff.1 hp).1
   have c1 : opV G false h (.callg Fn.q18) (some [.ptr p 0]) = some (.tup [],h.set p (.cellsT (some 146) [.ptr p 0,.own l v rows.length])) := by rw [ym7 hC]; exact xA5 hp ha
   obtain ⟨h1,hh1⟩ : ∃ h1,h1 = h.set p (.cellsT (some 146) [.ptr p 0,.own l v rows.length]) := ⟨_,rfl⟩
   rw [← hh1] at c1
   have g1 : h1[p]? = some (.cellsT (some 146) [.ptr p 0,.own l v rows.length]) := by rw [hh1,List.getElem?_set_self hpl]
   have g2 : h1[l]? = some (.arrT (some 5) 1 v rows true) := by rw [hh1,List.getElem?_set_ne (Ne.symm hne)]; exact hl
   have g3 : za8 1 false h1 (.ptr p 1) = some (.own l v rows.length) := by simp [za8,g1,cut,zd8]
   have hcc : ((UInt8.ofNat c.toNat).toNat : Int) = c := by
    rw [UInt8.toNat_ofNat']
    omega
   have g4 := xq9 (G := G) (st := false) (e := 5) (x := .tsl [[.int .u8 c]]) (str := false) (s := [UInt8.ofNat c.toNat]) g2 (by simp only [zn5,Bool.false_eq_true,if_false,zb7,List.map_cons,List.map_nil,zc7,hcc]) hb
   have g5 : (h1.set l (.arrT (some 5) 1 (v + [UInt8.ofNat c.toNat].length) (rows ++ [UInt8.ofNat c.toNat].map zc7) true))[p]? = some (.cellsT (some 146) [.ptr p 0,.own l v rows.length]) := by rw [List.getElem?_set_ne hne]; exact g1
   have g6 := xw8 (T := 146) (e := 5) (h := h) (p := p) (l := l) (v := v) (rows := rows) (s := [UInt8.ofNat c.toNat]) (x := .cellsT (some 146) [.ptr p 0,.own l v rows.length]) hne
   rw [← hh1] at g6
   rw [zc8]
   simp only [List.length_singleton] at g4 g5 g6
   obtain ⟨nb,hnb⟩ : ∃ nb,nb = [UInt8.ofNat c.toNat].map zc7 := ⟨_,rfl⟩
   rw [← hnb] at g4 g5 g6
   simp [Mc.q17,Ks.q17,za2,upd,lkp,genQ,Rs.q17,c1,g3,g4,g5,g6,zm0,owns,zj6,view,zc3,zt1,oneC,-za8]
  ·cases hF
 ·cases hF
theorem xr4 {G : Gam} : ∀ args h r h',zG3 5 args h = some (r,h') →
  wpM G Mc.q21 (genQ Rs.q21 r h') [] (za2 Ks.q21 args) h := by
 intro args h r h' hF
 unfold zG3 at hF
 split at hF
 ·rename_i p
  split at hF
  ·rename_i tg a l v n hp
   split at hF
   ·rename_i te v' rows hl
    split at hF
    ·rename_i hc
     obtain ⟨rfl,rfl,rfl,hb⟩ := hc
     have g3 : za8 1 false h (.ptr p 1) = some (.own l v rows.length) := by simp [za8,hp,cut,zd8]
     split at hF
     ·rename_i h0
      have hr0 : rows = [] := List.eq_nil_of_length_eq_zero h0
      subst hr0
      simp only [Option.some.injEq,Prod.mk.injEq] at hF
      obtain ⟨rfl,rfl⟩ := hF
      have g4 : opV G true h .usd (some [.own l v 0]) = some (.nilp,h) := by
       rw [zb2 rfl]
       simp [za7,hl]
      have g5 : opV G true h (.ustr 5) (some [.nilp,.int .i64 0]) = some (.str [],h) := by
       rw [zi1 rfl]
       simp [zb1]
      simp only [List.length_nil] at g3
      rw [zc8]
      simp [Mc.q21,Ks.q21,za2,upd,lkp,genQ,Rs.q21,g3,g4,g5,ze1,-za8]
     ·rename_i h0
      simp only [Option.map_eq_some_iff,Prod.mk.injEq] at hF
      obtain ⟨bs,hbs,rfl,rfl⟩ := hF
      have h1 : 0 < rows.length := by omega
      have g4 : opV G true h .usd (some [.own l v rows.length]) = some (.eptr l v 0 0,h) := by
       rw [zb2 rfl]
       simp [za7,h0]
      have g5 : opV G true h (.ustr 5) (some [.eptr l v 0 0,.int .i64 rows.length]) = some (.str bs,h.set l .dead) := by
       rw [zi1 rfl]
       simp [zb1,hl,h1,hb,hbs]
      rw [zc8]
      simp [Mc.q21,Ks.q21,za2,upd,lkp,genQ,Rs.q21,g3,g4,g5,ze1,-za8]
    ·cases hF
   ·cases hF
  ·cases hF
 ·cases hF
end Go.Proofs.YtopiadllkglamaaGreatDoor
namespace Go.Proofs.YtopiadllkglamaaGreatDoor
open Go.RowKit Go.IntWalk
theorem yn9 : ∀ s t : Bs,hexE (s ++ t) = hexE s ++ hexE t
 | [],t => rfl
 | b :: r,t => by simp [hexE,yn9 r t]
def yb8 : List AV → Heap → Option (AV × Heap)
 | [.int .u8 c,.ptr p 0],h => if 0 ≤ c ∧ c < 16 then (yd1 146 5 h p [zd6 c.toNat]).map fun h' => (.tup [],h') else none
 | _,_ => none
theorem yG2 (n : Nat) : ((zd6 n).toNat : Int) < 256 := by have := (zd6 n).toNat_lt; omega
theorem xd3 (n : Nat) : UInt8.ofNat ((zd6 n).toNat : Int).toNat = zd6 n := by simp
theorem xR7 {G : Gam} (hC : G Fn.q17 = some (.gen (zv2 146 5))) : ∀ args h r h',yb8 args h = some (r,h') →
  wpM G Mc.q78 (genQ Rs.q78 r h') [] (za2 Ks.q78 args) h := by
 intro args h r h' hF
 unfold yb8 at hF
 split at hF
 ·rename_i c p
  split at hF
  ·rename_i hc
   simp only [Option.map_eq_some_iff,Prod.mk.injEq] at hF
   obtain ⟨h2,hw,rfl,rfl⟩ := hF
   obtain ⟨n,rfl⟩ : ∃ n : Nat,c = n := ⟨c.toNat,by omega⟩
   have hn : n < 16 := by omega
   have hdig : hexDigits[n]? = some (zd6 n) := by
    unfold zd6
    rw [List.getD_eq_getElem?_getD]
    have : n < hexDigits.length := hn
    simp [this]
   have c1 : opV G false h (.callg Fn.q17) (some [.ptr p 0,.int .u8 (zd6 n).toNat]) = some (.nili,h2) := by
    rw [ym7 hC]
    simp only [zv2]
    rw [if_pos ⟨by omega,yG2 n⟩,xd3]
    simp at hw
    rw [hw]; rfl
   have c2 : opV G false h .istr (some [.str [48,49,50,51,52,53,54,55,56,57,97,98,99,100,101,102],.int .u8 n]) = some (.int .u8 (zd6 n).toNat,h) := by
    rw [zb2 rfl]
    have hd : ([48,49,50,51,52,53,54,55,56,57,97,98,99,100,101,102] : Bs)[n]? = some (zd6 n) := hdig
    simp [za7,hd]
   rw [zc8]
   simp [Mc.q78,Ks.q78,za2,lkp,genQ,Rs.q78,c1,c2]
  ·cases hF
 ·cases hF
theorem shr4 (b : UInt8) : zc2 .shr (.int .u8 (b.toNat : Int)) (.int .u64 4) = some (.int .u8 ((b.toNat / 16 : Nat) : Int)) := by
 have e : ((b.toNat : Int)).fdiv 16 = ((b.toNat / 16 : Nat) : Int) := by rw [Int.fdiv_eq_ediv_of_nonneg _ (by omega)]; omega
 have e2 : Nat.min (4 : Int).toNat IntKind.u8.bits = 4 := rfl
 simp only [zc2,reduceCtorEq,or_true,if_true,e2]
 simp
 exact e
theorem wf0 (b : UInt8) : zc2 .and (.int .u8 (b.toNat : Int)) (.int .u8 15) = some (.int .u8 ((b.toNat % 16 : Nat) : Int)) := by
 have hb := b.toNat_lt
 have e : (BitVec.ofInt 8 (b.toNat : Int) &&& BitVec.ofInt 8 15).toNat = b.toNat % 16 := by
  rw [BitVec.toNat_and]
  have e1 : (BitVec.ofInt 8 (b.toNat : Int)).toNat = b.toNat := by
   rw [BitVec.toNat_ofInt]; omega
  have e2 : (BitVec.ofInt 8 15).toNat = 2 ^ 4 - 1 := rfl
  rw [e1,e2,Nat.and_two_pow_sub_one_eq_mod]
 have e3 : zh3 .and .u8 (b.toNat : Int) 15 = some (.int .u8 (IntKind.u8.wrap ((BitVec.ofInt 8 (b.toNat : Int) &&& BitVec.ofInt 8 15).toNat : Int))) := rfl
 simp only [zc2,reduceCtorEq,or_self,if_false,if_true]
 rw [e3,e,zI0 (by omega)]
def bldH (o : Bs) : Heap := [.arrT (some 5) 1 o.length (o.map zc7) true,.cellsT (some 146) [if o = [] then .nilp else .ptr 1 0,.own 0 o.length o.length]]
theorem yh4 {o s : Bs} (hs : s ≠ []) (hb : o.length + s.length ≤ zb9) : yd1 146 5 (bldH o) 1 s = some (bldH (o ++ s)) := by
 have ha : yb5 1 (if o = [] then .nilp else .ptr 1 0) = true := by split <;> rfl
 simp only [yd1,bldH,List.getElem?_cons_succ,List.getElem?_cons_zero]
 rw [if_pos ⟨trivial,trivial,ha,trivial,by simp,hb⟩]
 simp [xd6,hs]
theorem yI6 {o : Bs} (h0 : o ≠ []) (hb : o.length ≤ zb9) : zG3 5 [.ptr 1 0] (bldH o) = some (.str o,(bldH o).set 0 .dead) := by
 have : 0 < o.length := List.length_pos_iff.2 h0
 simp only [zG3,bldH,List.getElem?_cons_succ,List.getElem?_cons_zero]
 rw [if_pos ⟨trivial,trivial,by simp,hb⟩,if_neg (by omega),zz2]
 rfl
theorem xB0 : bldH [] = [.arrT (some 5) 1 0 [] true,.cellsT (some 146) [.nilp,.own 0 0 0]] := rfl
@[simp] theorem xY4 {G : Gam} {st : Bool} {h : Heap} {t e : TypeId} : opV G st h (.allocB t e) (some []) = some (.ptr (h.length + 1) 0,h ++ [.arrT (some e) 1 0 [] true] ++ [.cellsT (some t) [.nilp,.own h.length 0 0]]) := by rw [zi1 rfl]; rfl
def hexR (s : Bs) : AV := if s.length = 32 then .tup [.str (hexE s),.int .i64 0] else .tup [.str [],.int .i64 1]
def yd0 : List AV → Option AV
 | [.str s] => if s.length < big then some (hexR s) else none
 | _ => none
theorem xE6 (G : Gam) (hC : G Fn.q78 = some (.gen yb8)) (s : Bs) (hb : s.length < 1000) {ks : List MK} {Q : zc4} : ∀ (rest : Bs) (i : Nat),s.drop i = rest → i ≤ s.length →
  (∀ env,exM G .normal ks Q env [(0,.str s),(2,.str []),(3,.int .i64 0),(4,.ptr 1 0),(5,.fn Fn.q78 [.ptr 1 0]),(6,.int .i64 s.length)] (bldH (hexE s))) →
  zi3 G [] Mc.digest_Hex_L0 2 (.blk 0 :: ks) Q [(0,.str s),(2,.str []),(3,.int .i64 0),(4,.ptr 1 0),(5,.fn Fn.q78 [.ptr 1 0]),(6,.int .i64 i)] (bldH (hexE (s.take i)))
 | [],i,hd,hi,hk => by
  have hi2 := zh4 hd
  have e : i = s.length := by omega
  subst e
  rw [List.take_length]
  refine zb3 (Mc.digest_Hex_L0.eq_1) ?_
  rw [za5 (n := 2) rfl]
  simp
  simpa using hk _
 | b :: rest,i,hd,hi,hk => by
  obtain ⟨hi2,hx,hxd⟩ := zf0 hd
  have hi' : ltB i s.length = true := zb8.2 (by omega)
  have hw := zn1 (i := i) (by unfold big; omega)
  have htl : (s.take i).length = i := by simp; omega
  have htk : s.take (i + 1) = s.take i ++ [b] := by rw [List.take_add_one,hx]; rfl
  have hnext : hexE (s.take (i + 1)) = (hexE (s.take i) ++ [zd6 (b.toNat / 16)]) ++ [zd6 (b.toNat % 16)] := by rw [htk,yn9]; simp [hexE]
  have hl := zp5 (s.take i)
  have hbt := b.toNat_lt
  have w1 : zl8 G Fn.q78 [.int .u8 ((b.toNat / 16 : Nat) : Int),.ptr 1 0] (bldH (hexE (s.take i))) = some (.tup [],bldH (hexE (s.take i) ++ [zd6 (b.toNat / 16)])) := by
   rw [yp2 hC]
   simp only [yb8]
   rw [if_pos ⟨by omega,by omega⟩,Int.toNat_natCast,yh4 (by simp) (by unfold zb9; simp; omega)]
   rfl
  have w2 : zl8 G Fn.q78 [.int .u8 ((b.toNat % 16 : Nat) : Int),.ptr 1 0] (bldH (hexE (s.take i) ++ [zd6 (b.toNat / 16)])) = some (.tup [],bldH (hexE (s.take (i + 1)))) := by
   rw [yp2 hC,hnext]
   simp only [yb8]
   rw [if_pos ⟨by omega,by omega⟩,Int.toNat_natCast,yh4 (by simp) (by unfold zb9; simp; omega)]
   rfl
  have c1 : ∀ h,opV G false h .istr (some [.str s,.int .i64 i]) = some (.int .u8 b.toNat,h) := fun h => zx4 hx
  have ih := xE6 G hC s hb rest (i + 1) (by rw [← hxd]) (by omega) hk
  refine zb3 (Mc.digest_Hex_L0.eq_1) ?_
  rw [za5 (n := 2) rfl]
  obtain ⟨H0,hH0⟩ : ∃ H,H = bldH (hexE (s.take i)) := ⟨_,rfl⟩
  obtain ⟨H1,hH1⟩ : ∃ H,H = bldH (hexE (s.take i) ++ [zd6 (b.toNat / 16)]) := ⟨_,rfl⟩
  obtain ⟨H2,hH2⟩ : ∃ H,H = bldH (hexE (s.take (i + 1))) := ⟨_,rfl⟩
  rw [← hH0,← hH1] at w1
  rw [← hH1,← hH2] at w2
  rw [← hH2] at ih
  rw [← hH0]
  have hl2 : H2.length = 2 := by rw [hH2]; rfl
  have s1 := shr4 b
  have s2 := wf0 b
  obtain ⟨q,hq⟩ : ∃ q,q = b.toNat / 16 := ⟨_,rfl⟩
  obtain ⟨m,hm⟩ : ∃ m,m = b.toNat % 16 := ⟨_,rfl⟩
  rw [← hq] at s1 w1
  rw [← hm] at s2 w2
  simp [hi',c1,s1,s2,w1,w2,hw]
  refine ze8 ?_
  rw [za5 (n := 2) hl2]
  simpa using ih
theorem wf8 {G : Gam} (hC : G Fn.q78 = some (.gen yb8)) (hS : G Fn.q21 = some (.gen (zG3 5))) : ∀ args r,yd0 args = some r → wpM G Mc.digest_Hex (zb0 Rs.digest_Hex r) [] (za2 Ks.digest_Hex args) [] := by
 intro args r hF
 unfold yd0 at hF
 split at hF
 ·rename_i s
  split at hF
  ·rename_i hb
   injection hF with hF; subst hF
   rw [zc8]
   by_cases h32 : s.length = 32
   ·have heq : eqB s.length 32 = true := by simp [eqB,h32]
    have ne : hexE s ≠ [] := fun e => by have := congrArg List.length e; rw [zp5] at this; simp at this; omega
    have st := yI6 ne (by rw [zp5]; unfold zb9; omega)
    have c2 : opV G false (bldH (hexE s)) (.callg Fn.q21) (some [.ptr 1 0]) = some (.str (hexE s),(bldH (hexE s)).set 0 .dead) := by rw [ym7 hS]; exact st
    have lp := xE6 G hC s (by omega) (ks := [.seq (.seq (.reg [
      ⟨none,some 29,false,.callg Fn.q21,[.t 4]⟩,
      ⟨none,some 2,true,.mv,[.t 29]⟩,
      ⟨none,some 3,true,.mv,[.c (.int .i64 0)]⟩]) .ret)]) (Q := zb0 Rs.digest_Hex (hexR s)) s 0 rfl (by omega) (fun env => by
     simp [c2,zb0,Rs.digest_Hex,hexR,h32,upd,lkp])
    have heq' : eqB (32 : Int) 32 = true := by simp [eqB]
    rw [List.take_zero,show hexE [] = [] from rfl,xB0] at lp
    simp [Mc.digest_Hex,Ks.digest_Hex,za2,upd,lkp,h32]
    simpa [h32] using lp
   ·have heq : eqB (s.length : Int) 32 = false := by simp [eqB]; omega
    simp [Mc.digest_Hex,Ks.digest_Hex,za2,upd,lkp,heq,hexR,zb0,Rs.digest_Hex,h32]
  ·cases hF
 ·cases hF
end Go.Proofs.YtopiadllkglamaaGreatDoor
namespace Go.Proofs.YtopiadllkglamaaGreatDoor
open Go.RowKit Go.IntWalk
abbrev hfrR (s : Bs) (i : Nat) : List (Nat × AV) := [(0,.str s),(2,.str []),(3,.int .i64 0),(4,.str hexDigits),(5,.own 0 (2 * i) (2 * i)),(6,.int .i64 i)]
abbrev hheR (s : Bs) (i : Nat) : Heap := [.arr 1 (2 * i) ((hexE (s.take i)).map zc7) true]
theorem xf7 (G : Gam) (s : Bs) (hb : s.length < 1000) {ks : List MK} {Q : zc4} : ∀ (rest : Bs) (i : Nat),s.drop i = rest → i ≤ s.length →
  (∀ env,exM G .normal ks Q env (hfrR s s.length) (hheR s s.length)) →
  zi3 G [] Mc.q64_L0 1 (.blk 0 :: ks) Q (hfrR s i) (hheR s i)
 | [],i,hd,hi,hk => by
  have hi2 := zh4 hd
  have e : i = s.length := by omega
  subst e
  have q : ltB (s.length : Int) (s.length : Int) = false := ze4.2 (by omega)
  refine zb3 (Mc.q64_L0.eq_1) ?_
  rw [za5 (n := 1) rfl]
  simp
  simpa using hk _
 | b :: rest,i,hd,hi,hk => by
  obtain ⟨hi2,hx,hxd⟩ := zf0 hd
  have hi' : ltB i s.length = true := zb8.2 (by omega)
  have hw := zn1 (i := i) (by unfold big; omega)
  have htl : (s.take i).length = i := by simp; omega
  have htk : s.take (i + 1) = s.take i ++ [b] := by rw [List.take_add_one,hx]; rfl
  have hnext : (hexE (s.take (i + 1))).map zc7 = (hexE (s.take i)).map zc7 ++ [[.int .u8 ((zd6 (b.toNat / 16)).toNat : Int)],[.int .u8 ((zd6 (b.toNat % 16)).toNat : Int)]] := by rw [htk,yn9]; simp [hexE]
  have hl : ((hexE (s.take i)).map zc7).length = 2 * i := by rw [List.length_map,zp5,htl]
  have hbt := b.toNat_lt
  have ih := xf7 G s hb rest (i + 1) (by rw [← hxd]) (by omega) hk
  unfold hheR hfrR at ih
  rw [hnext,show 2 * (i + 1) = 2 * i + 2 by omega] at ih
  have dg : ∀ n : Nat,n < 16 → ∀ st h,opV G st h .istr (some [.str hexDigits,.int .u8 n]) = some (.int .u8 ((zd6 n).toNat : Int),h) := fun n hn st h => zx4 (by
   unfold zd6
   rw [List.getD_eq_getElem?_getD]
   have : n < hexDigits.length := hn
   simp [this])
  have c1 : ∀ st h,opV G st h .istr (some [.str s,.int .i64 i]) = some (.int .u8 b.toNat,h) := fun st h => zx4 hx
  have c3 := fun st h => dg (b.toNat / 16) (by omega) st h
  have c4 := fun st h => dg (b.toNat % 16) (by omega) st h
  have s1 := shr4 b
  have s2 := wf0 b
  obtain ⟨q,hq⟩ : ∃ q,q = b.toNat / 16 := ⟨_,rfl⟩
  obtain ⟨m,hm⟩ : ∃ m,m = b.toNat % 16 := ⟨_,rfl⟩
  rw [← hq] at s1 c3 ih
  rw [← hm] at s2 c4 ih
  unfold hheR hfrR
  clear hnext hk
  generalize (hexE (s.take i)).map zc7 = R at hl ih ⊢
  have ap := fun st => yM4 (G := G) (s := st) (h := [.arr 1 (2 * i) R true]) (n := 1) (b := 1) (l := 0) (ver := 2 * i) (k := 2 * i) (x := .tsl [[.int .u8 ((zd6 q).toNat : Int)],[.int .u8 ((zd6 m).toNat : Int)]]) (new := [[.int .u8 ((zd6 q).toNat : Int)],[.int .u8 ((zd6 m).toNat : Int)]]) (rows := R) rfl rfl hl.symm rfl (by simp) (by simp [zb9]; omega) (by simp [zb9]; omega)
  have bs : ∀ st h,opV G st h (.bsl false 1) (some [.int .u8 ((zd6 q).toNat : Int),.int .u8 ((zd6 m).toNat : Int)]) = some (.tsl [[.int .u8 ((zd6 q).toNat : Int)],[.int .u8 ((zd6 m).toNat : Int)]],h) := fun st h => by rw [zH3 rfl]; rfl
  simp only [List.length_cons,List.length_nil,List.set,Nat.zero_add,Nat.reduceAdd] at ap
  generalize (zd6 q).toNat = d1 at ap bs c3 ih
  generalize (zd6 m).toNat = d2 at ap bs c4 ih
  generalize 2 * i = v at ap ih ⊢
  refine zb3 (Mc.q64_L0.eq_1) ?_
  rw [za5 (n := 1) rfl]
  simp [hi',c1,c3,c4,s1,s2,bs,ap,hw,-zH3]
  refine ze8 ?_
  rw [za5 (n := 1) rfl]
  simpa using ih
set_option maxHeartbeats 1000000 in
theorem xR6 {G : Gam} : ∀ args r,yd0 args = some r → wpM G Mc.q64 (zb0 Rs.q64 r) [] (za2 Ks.q64 args) [] := by
 intro args r hF
 unfold yd0 at hF
 split at hF
 ·rename_i s
  split at hF
  ·rename_i hb
   injection hF with hF; subst hF
   rw [zc8]
   by_cases h32 : s.length = 32
   ·have heq' : eqB (32 : Int) 32 = true := rfl
    have hl : ((hexE s).map zc7).length = 64 := by rw [List.length_map,zp5,h32]
    have bst : ∀ st,opV G st [.arr 1 64 ((hexE s).map zc7) true] .b2s (some [.own 0 64 64]) = some (.str (hexE s),[.arr 1 64 ((hexE s).map zc7) true]) := fun st => by
     rw [zb2 rfl]
     have := zr2 (h := [.arr 1 64 ((hexE s).map zc7) true]) (l := 0) (v := 64) rfl (n := 64) hl.symm
     simp only [za7,this,zz2,Option.map]
    have lp := fun ks Q hk => xf7 G s (by omega) (ks := ks) (Q := Q) s 0 rfl (by omega) hk
    unfold hheR hfrR at lp
    simp only [List.take_zero,hexE,List.map_nil,Nat.mul_zero,h32] at lp
    rw [show s.take 32 = s by rw [← h32]; exact List.take_length] at lp
    generalize (hexE s).map zc7 = R at bst lp
    simp [Mc.q64,Ks.q64,za2,h32]
    refine lp _ _ (fun env => ?_)
    simp [bst,zb0,Rs.q64,hexR,h32]
   ·have heq : eqB (s.length : Int) 32 = false := by simp [eqB]; omega
    simp [Mc.q64,Ks.q64,za2,upd,lkp,heq,hexR,zb0,Rs.q64,h32]
  ·cases hF
 ·cases hF
theorem zN1 (d : Bs) : (dsum d).length = 32 := by
 rw [← yK3]
 unfold rsum
 simp [strI,zU7]
theorem yN7 (d : Bs) : yd0 [.str (dsum d)] = some (.tup [.str (hexE (dsum d)),.int .i64 0]) := by
 have h := zN1 d
 simp only [yd0,hexR,h]
 rfl
def zB4 : List AV → Option AV := F1 eStr eStr fun d => if d.length ≤ 100000000 then some (hexE (dsum d)) else none
theorem xy8 {G : Gam} (hS : G Fn.digest_Sum = some (.pure zz3)) (hH : G Fn.digest_Hex = some (.pure yd0)) : ∀ args r,zB4 args = some r → wpM G Mc.q37 (zb0 Rs.q37 r) [] (za2 Ks.q37 args) [] := zU6 fun d r h => by
 split at h
 ·rename_i hb
  injection h with h; subst h
  have hu : zz3 [.str d] = some (.str (dsum d)) := zw5 (A := eStr) (R := eStr) (f := fun d => if d.length ≤ big then some (dsum d) else none) (x := d) (r := dsum d) (if_pos (by unfold big; omega))
  have c1 : ∀ st h,opV G st h (.call Fn.digest_Sum) (some [.str d]) = some (.str (dsum d),h) := fun st h => zb5 hS (us := [.str d]) rfl hu (.inl rfl)
  have c2 : ∀ st h,opV G st h (.call Fn.digest_Hex) (some [.str (dsum d)]) = some (.tup [.str (hexE (dsum d)),.int .i64 0],h) := fun st h => zb5 hH (us := [.str (dsum d)]) rfl (yN7 d) (.inl rfl)
  rw [zc8]
  generalize dsum d = e at c1 c2
  generalize hexE e = x at c2
  simp [Mc.q37,Ks.q37,za2,eStr,c1,c2,Rs.q37]
 ·cases h
theorem xf8 {G : Gam} (hS : G Fn.q65 = some (.pure yR1)) (hH : G Fn.q64 = some (.pure yd0)) : ∀ args r,zB4 args = some r → wpM G Mc.q63 (zb0 Rs.q63 r) [] (za2 Ks.q63 args) [] := zU6 fun d r h => by
 split at h
 ·rename_i hb
  injection h with h; subst h
  have hu : yR1 [.str d] = some (.str (dsum d)) := zw5 (A := eStr) (R := eStr) (f := fun d => if d.length ≤ 100000000 then some (dsum d) else none) (x := d) (r := dsum d) (if_pos hb)
  have c1 : ∀ st h,opV G st h (.call Fn.q65) (some [.str d]) = some (.str (dsum d),h) := fun st h => zb5 hS (us := [.str d]) rfl hu (.inl rfl)
  have c2 : ∀ st h,opV G st h (.call Fn.q64) (some [.str (dsum d)]) = some (.tup [.str (hexE (dsum d)),.int .i64 0],h) := fun st h => zb5 hH (us := [.str (dsum d)]) rfl (yN7 d) (.inl rfl)
  rw [zc8]
  generalize dsum d = e at c1 c2
  generalize hexE e = x at c2
  simp [Mc.q63,Ks.q63,za2,eStr,c1,c2,Rs.q63]
 ·cases h
end Go.Proofs.YtopiadllkglamaaGreatDoor
