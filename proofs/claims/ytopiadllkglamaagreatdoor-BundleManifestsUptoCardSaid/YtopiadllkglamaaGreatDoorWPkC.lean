/- The order of strings. The reference: trees. The reference: a tree is checked. Manifests: what is read of them,as the program and as the reference reads: plain laws. Small laws on cutting and splittin -/
import Derived.Test.YtopiadllkglamaaGreatDoorWAm10
import Derived.Test.YtopiadllkglamaaGreatDoorWRmI
import Derived.Test.YtopiadllkglamaaGreatDoorWRmA
import Derived.Test.YtopiadllkglamaaGreatDoorWRmD
import Derived.Lib.AtoiAll
import Derived.Test.YtopiadllkglamaaGreatDoorWRmJ
import Derived.Test.YtopiadllkglamaaGreatDoorWRecMc
namespace Go.Proofs.YtopiadllkglamaaGreatDoor
open Go.RowKit
theorem xL4 (a b : Bs) : (Op.bytesLess a b || a == b) = !(Op.bytesLess b a) := by
 induction a generalizing b with
 | nil => cases b <;> rfl
 | cons x xs ih =>
  cases b with
  | nil => rfl
  | cons y ys =>
   have h := ih ys
   simp only [Op.bytesLess]
   by_cases hxy : x = y
   ·subst hxy
    simpa using h
   ·have hyx : ¬ y = x := fun e => hxy e.symm
    have hn : x.toNat ≠ y.toNat := fun e => hxy (UInt8.toNat_inj.1 e)
    have e1 : (x == y) = false := by simp [hxy]
    have e2 : (y == x) = false := by simp [hyx]
    have e3 : (x :: xs == y :: ys) = false := by simp [hxy]
    rw [e1,e2,e3]
    simp only [Bool.false_and,Bool.or_false]
    rw [Bool.eq_iff_iff]
    simp only [decide_eq_true_eq,Bool.not_eq_true',decide_eq_false_iff_not,UInt8.lt_iff_toNat_lt]
    omega
end Go.Proofs.YtopiadllkglamaaGreatDoor
namespace Go.Proofs.YtopiadllkglamaaGreatDoor
open Go.RowKit Go.IntWalk
theorem yp0 (G : Gam) (hB : G Fn.q49 = some (.pure zs9)) (t : List Touch) (hb : t.length ≤ 64) (ht : ∀ f ∈ t,f.path.length < 4294967281) (i : Nat) (hi : i ≤ t.length) (f : Touch) (r : Int) {ks : List MK} : ∀ (rest : List Touch) (j : Nat),(t.take i).drop j = rest → j ≤ i →
  ((rest.any fun g => zn8 f.path g.path) = true → r = 6) →
  ((rest.any fun g => zn8 f.path g.path) = false → ∀ env j',exM G .normal ks (zb0 Rs.q46 (.int .i64 r)) env [(0,.sl (za1 t)),(2,.int .i64 0),(3,.int .i64 i),(4,.ptr 0 0),(5,j'),(9,.sl (za1 t)),(10,.int .i64 t.length),(11,.int .i64 i)] [.cells [.str f.path,.str f.dig]]) →
  zi3 G [] Mc.q46_L1 1 (.blk 2 :: ks) (zb0 Rs.q46 (.int .i64 r)) [(0,.sl (za1 t)),(2,.int .i64 0),(3,.int .i64 i),(4,.ptr 0 0),(5,.int .i64 j),(9,.sl (za1 t)),(10,.int .i64 t.length),(11,.int .i64 i)] [.cells [.str f.path,.str f.dig]]
 | [],j,hd,hj,h6,hk => by
  have hi2 := zh4 hd
  rw [List.length_take] at hi2
  have e : j = i := by omega
  subst e
  have hl : ltB (j : Int) (j : Int) = false := ze4.2 (by omega)
  refine zb3 (Mc.q46_L1.eq_1) ?_
  simp [zf3 (n := 1) (h := [.cells [.str f.path,.str f.dig]]) rfl]
  exact hk rfl _ _
 | g :: rest,j,hd,hj,h6,hk => by
  obtain ⟨hlt,hx,hxd⟩ := zf0 hd
  rw [List.length_take] at hlt
  have hx2 : t[j]? = some g := by rw [List.getElem?_take_of_lt (by omega)] at hx; exact hx
  have hl : ltB (j : Int) (i : Int) = true := zb8.2 (by omega)
  have hw := zn1 (i := j) (by unfold big; omega)
  have hrow := zi0 hx2
  have hgl := ht g (List.mem_of_getElem? hx2)
  have ir : ∀ st h,opV G st h (.iadr 2) (some [.sl (za1 t),.int .i64 j]) = some (.fptr [.str g.path,.str g.dig] 0,h) := fun st h => by
   rw [zb2 rfl]; simp [za7,zc9,hrow]
  have cb : ∀ st h,opV G st h (.call Fn.q49) (some [.str f.path,.str g.path]) = some (.bool (zn8 f.path g.path),h) := fun st h => zb5 hB (us := [.str f.path,.str g.path]) rfl (by simp only [zs9]; rw [if_pos (by unfold big; omega)]) (.inl rfl)
  refine zb3 (Mc.q46_L1.eq_1) ?_
  cases hbl : zn8 f.path g.path with
  | true =>
   rw [hbl] at cb
   have hr := h6 (by simp [hbl])
   subst hr
   simp [hl,zf3 (n := 1) (h := [.cells [.str f.path,.str f.dig]]) rfl,ir,cb,cut,zd8,zb0,Rs.q46]
  | false =>
   rw [hbl] at cb
   have ih := yp0 G hB t hb ht i hi f r (ks := ks) rest (j + 1) hxd (by omega) (fun h => h6 (by simp [hbl,h])) (fun h => hk (by simp [hbl,h]))
   simp [hl,zf3 (n := 1) (h := [.cells [.str f.path,.str f.dig]]) rfl,ir,cb,hw,cut,zd8]
   simpa using ih
end Go.Proofs.YtopiadllkglamaaGreatDoor
namespace Go.Proofs.YtopiadllkglamaaGreatDoor
open Go.RowKit Go.IntWalk
theorem yh1 (G : Gam) (hP : G Fn.q58 = some (.pure zz4)) (hB : G Fn.q49 = some (.pure zs9)) (t : List Touch) (hb : t.length ≤ 64)
  (ht : ∀ f ∈ t,f.path.length < 4294967281) (r : Int) : ∀ (rest : List Touch) (i : Nat) (x y z : AV) (H : Heap),t.drop i = rest → i ≤ t.length → r = zm8 (t.take i) rest →
  zi3 G [3,4,5] Mc.q46_L0 0 [.blk 0,.seq (.seq (.reg [⟨none,some 2,true,.mv,[.c (.int .i64 0)]⟩]) .ret)] (zb0 Rs.q46 (.int .i64 r))
   [(0,.sl (za1 t)),(2,.int .i64 0),(3,x),(4,y),(5,z),(9,.sl (za1 t)),(10,.int .i64 t.length),(11,.int .i64 i)] H
 | [],i,x,y,z,H,hd,hi,hr => by
  have hi2 := zh4 hd
  have hl : ltB (i : Int) (t.length : Int) = false := ze4.2 (by omega)
  simp only [zm8] at hr
  subst hr
  refine zb3 (Mc.q46_L0.eq_1) ?_
  simp [hl,trunc,zm1,low,lowH,zb0,Rs.q46]
 | f :: rest,i,x,y,z,H,hd,hi,hr => by
  obtain ⟨hlt,hx,hxd⟩ := zf0 hd
  have hl : ltB (i : Int) (t.length : Int) = true := zb8.2 (by omega)
  have hmem : f ∈ t := List.mem_of_getElem? hx
  have hpl := ht f hmem
  have hrow := zi0 hx
  have hw : IntKind.i64.wrap ((i : Int) + 1) = ((i + 1 : Nat) : Int) := zn1 (by unfold big; omega)
  have ir : ∀ st h,opV G st h (.iadr 2) (some [.sl (za1 t),.int .i64 i]) = some (.fptr [.str f.path,.str f.dig] 0,h) := fun st h => by
   rw [zb2 rfl]; simp [za7,zc9,hrow]
  have cp : ∀ st h,opV G st h (.call Fn.q58) (some [.str f.path]) = some (.int .i64 (if zf1 f.path then 0 else 2),h) := fun st h => zb5 hP (us := [.str f.path]) rfl (zw5 (A := eStr) (R := eInt) (x := f.path) (by simp [hpl])) (.inl rfl)
  rw [zm8] at hr
  refine zb3 (Mc.q46_L0.eq_1) ?_
  cases hp : zf1 f.path with
  | false =>
   rw [if_pos hp] at hr
   subst hr
   rw [hp] at cp
   have q : eqB 2 0 = false := rfl
   simp [hl,trunc,zm1,low,lowH,ir,cp,q,oneC,AV.cells,zj1,cut,zd8,zb0,Rs.q46]
  | true =>
   rw [if_neg (by simp [hp])] at hr
   rw [hp] at cp
   by_cases hd : 65536 < f.dig.length
   ·rw [if_pos hd] at hr
    subst hr
    have q : ltB 65536 (f.dig.length : Int) = true := zb8.2 (by omega)
    simp [hl,trunc,zm1,low,lowH,ir,cp,q,ze1,oneC,AV.cells,zj1,cut,zd8,zb0,Rs.q46]
   ·rw [if_neg hd] at hr
    have q : ltB 65536 (f.dig.length : Int) = false := ze4.2 (by omega)
    have htk : t.take (i + 1) = t.take i ++ [f] := by rw [List.take_add_one,hx]; rfl
    have ih := fun X Y Z H' hr' => yh1 G hP hB t hb ht r rest (i + 1) X Y Z H' hxd (by omega) hr'
    rw [htk] at ih
    by_cases hi0 : i = 0
    ·subst hi0
     have g0 : ltB 0 0 = false := rfl
     have w1 : IntKind.i64.wrap 1 = 1 := rfl
     rw [if_neg (by simp),if_neg (by simp)] at hr
     have ih2 := fun X Y Z H' => ih X Y Z H' hr
     have inner := fun ks h => yp0 G hB t hb ht 0 (by omega) f r (ks := ks) [] 0 (by simp) (by omega) (fun h => by simp at h) h
     simp at ir hl inner
     simp [hl,trunc,zm1,low,lowH,ir,cp,q,ze1,oneC,AV.cells,zj1,cut,zd8]
     refine inner _ fun env j' => ?_
     simp [w1]
     simpa using ih2 _ _ _ _
    ·obtain ⟨g,hg⟩ : ∃ g,t[i - 1]? = some g := ⟨_,List.getElem?_eq_getElem (by omega)⟩
     have hlast := yx4 (by omega) hg
     have g0 : ltB 0 (i : Int) = true := zb8.2 (by omega)
     have ws : IntKind.i64.wrap ((i : Int) - 1) = (i : Int) - 1 := i64_in _ ⟨by omega,by omega⟩
     have hgr := zi0 hg
     have ir2 : ∀ st h,opV G st h (.iadr 2) (some [.sl (za1 t),.int .i64 ((i : Int) - 1)]) = some (.fptr [.str g.path,.str g.dig] 0,h) := fun st h => by
      have e : ((i : Int) - 1) = ((i - 1 : Nat) : Int) := by omega
      rw [e,zb2 rfl]; simp [za7,zc9,hgr]
     have bg : zc2 .leq (.str f.path) (.str g.path) = some (.bool (!(Op.bytesLess g.path f.path))) := by simp only [zc2,zy6,xL4]
     rw [hlast] at hr
     cases hbl : Op.bytesLess g.path f.path with
     | false =>
      rw [hbl] at bg
      simp only [Option.map_some,hbl,if_true] at hr
      subst hr
      simp [hl,trunc,zm1,low,lowH,ir,ir2,cp,q,g0,ws,bg,ze1,oneC,AV.cells,zj1,cut,zd8,zb0,Rs.q46]
     | true =>
      rw [hbl] at bg
      simp only [Option.map_some,hbl,Option.some.injEq,Bool.true_eq_false,if_false] at hr
      have inner := fun ks h6 h => yp0 G hB t hb ht i hi f r (ks := ks) (t.take i) 0 rfl (by omega) h6 h
      simp only [Int.natCast_zero] at inner
      simp [hl,trunc,zm1,low,lowH,ir,ir2,cp,q,g0,ws,bg,ze1,oneC,AV.cells,zj1,cut,zd8]
      refine inner _ (fun h6 => by rw [hr,if_pos h6]) fun h env j' => ?_
      rw [h] at hr
      simp only [Bool.false_eq_true,if_false] at hr
      have ih2 := fun X Y Z H' => ih X Y Z H' hr
      simp [hw]
      simpa using ih2 _ _ _ _
theorem yc0 {G : Gam} (hP : G Fn.q58 = some (.pure zz4)) (hB : G Fn.q49 = some (.pure zs9)) :
  ∀ args r,zj9 args = some r → wpM G Mc.q46 (zb0 Rs.q46 r) [] (za2 Ks.q46 args) [] := by
 intro args r hF
 unfold zj9 at hF
 split at hF
 ·rename_i rows
  split at hF
  ·rename_i t hdec
   split at hF
   ·rename_i hall
    injection hF with hF; subst hF
    have hrows : rows = za1 t := zl2 (fun r x => zh7) hdec
    subst hrows
    have ht : ∀ f ∈ t,f.path.length < 4294967281 := by simpa using hall
    rw [zc8]
    by_cases hb : 64 < t.length
    ·have q : ltB 64 (t.length : Int) = true := zb8.2 (by omega)
     have e : zr8 t = 10 := by unfold zr8; rw [if_pos hb]
     rw [e]
     simp [Mc.q46,za2,Ks.q46,ze1,q,zb0,Rs.q46]
    ·have q : ltB 64 (t.length : Int) = false := ze4.2 (by omega)
     have e : zr8 t = zm8 [] t := by unfold zr8; rw [if_neg hb]
     rw [e]
     have ih := yh1 G hP hB t (by omega) ht _ t 0 .junk .junk .junk [] rfl (by omega) rfl
     simp [Mc.q46,za2,Ks.q46,ze1,q]
     simpa using ih
   ·cases hF
  ·cases hF
 ·cases hF
end Go.Proofs.YtopiadllkglamaaGreatDoor
namespace Go.Proofs.YtopiadllkglamaaGreatDoor
open Go.RowKit Go.IntWalk
def yu0 : List Bs → Option (List (List Bs))
 | [] => none
 | [l] => if l = [] then some [] else none
 | l :: ls => if (za9 32 l).contains [] then none else (yu0 ls).map (za9 32 l :: ·)
def zA1 (s : Bs) : Option (List (List Bs)) := yu0 (za9 10 s)
def ze9 : Bs := [112,97,112,101,114]
def zd1 : Bs := [115,111,117,114,99,101]
structure Stand where
 np : Nat
 ns : Nat
 lp : Bs
 ls : Bs
def zp1 (ok : List Bs → Bool) : Stand → List (List Bs) → Bool
 | _,[] => true
 | st,w :: r =>
  if w.headD [] = ze9 ∧ st.ns = 0 then
   (if ok w = false then false else if Op.bytesLess st.lp (w.getD 1 []) = false then false else if st.np = 64 then false else zp1 ok { st with np := st.np + 1,lp := w.getD 1 [] } r)
  else if w.headD [] = zd1 then
   (if ok w = false then false else if Op.bytesLess st.ls (w.getD 1 []) = false then false else if st.ns = 64 then false else zp1 ok { st with ns := st.ns + 1,ls := w.getD 1 [] } r)
  else false
theorem yX5 {c : UInt8} {r : Bs} (h : 48 ≤ c.toNat) : Lib.atoiAll (c :: r) = (match Lib.parseUint10 0 (c :: r) with
  | .range => .range
  | .ok u => if 9223372036854775808 ≤ u then .range else .ok (u : Int)
  | _ => Lib.atoiAll []) := by
 have h1 : (if c.toNat = 43 ∨ c.toNat = 45 then r else c :: r) = c :: r := if_neg (by omega)
 have h3 : ¬ c.toNat = 45 := by omega
 simp only [Lib.atoiAll,h1,Lib.parseMag]
 rw [if_neg (by simp)]
 cases Lib.parseUint10 0 (c :: r) with
 | ok u => simp [h3]
 | _ => rfl
theorem yf2 : ∀ (s : Bs) (a v : Nat) (c : UInt8),Lib.parseUint10 a s = .ok v → 48 ≤ c.toNat → c.toNat ≤ 57 → v < 1000000 → Lib.parseUint10 a (s ++ [c]) = .ok (v * 10 + (c.toNat - 48))
 | [],a,v,c,h,h1,h2,hv => by
  simp only [Lib.parseUint10] at h; injection h with h; subst h
  simp only [List.nil_append,Lib.parseUint10]
  rw [if_pos ⟨h1,h2⟩,if_neg (by omega),if_neg (by omega)]
 | x :: r,a,v,c,h,h1,h2,hv => by
  simp only [Lib.parseUint10] at h
  split at h
  ·rename_i hx
   split at h
   ·cases h
   ·rename_i q1
    split at h
    ·cases h
    ·rename_i q2
     have ih := yf2 r _ v c h h1 h2 hv
     simp only [List.cons_append,Lib.parseUint10]
     rw [if_pos hx,if_neg q1,if_neg q2,ih]
  ·cases h
theorem zS3 : ∀ (k n : Nat),n < k → n < 1000000 → Lib.parseUint10 0 (Lib.decDigits n) = .ok n
 | 0,n,h,_ => by omega
 | k + 1,n,h,hn => by
  by_cases h1 : n < 10
  ·have e : (UInt8.ofNat (48 + n)).toNat = 48 + n := by rw [UInt8.toNat_ofNat']; omega
   rw [zm7 h1]
   simp only [Lib.parseUint10,e]
   rw [if_pos (by omega),if_neg (by omega),if_neg (by omega)]
   congr 1; omega
  ·have ih := zS3 k (n / 10) (by omega) (by omega)
   have e : (UInt8.ofNat (48 + n % 10)).toNat = 48 + n % 10 := by rw [UInt8.toNat_ofNat']; omega
   rw [ya7 h1,zm7 (n := n % 10) (by omega)]
   rw [yf2 _ 0 (n / 10) _ ih (by rw [e]; omega) (by rw [e]; omega) (by omega),e]
   congr 1; omega
def yk6 (s : Bs) : Bool := match Lib.atoiAll s with
 | .ok v => decide (Lib.itoa v = s) && decide (0 ≤ v) && decide (v ≤ 65536)
 | _ => false
theorem xF7 (n : Nat) : Lib.decDigits n ≠ [] := fun e => by
 have := xn2 (n + 1) n (by omega)
 rw [e] at this; simp at this
theorem xC0 {n : Nat} (h : n < 1000000) : Lib.atoiAll (Lib.decDigits n) = .ok (n : Int) := by
 have hp := zS3 (n + 1) n (by omega) h
 obtain ⟨c,r,e⟩ : ∃ c r,Lib.decDigits n = c :: r := by
  cases hd : Lib.decDigits n with
  | nil => exact absurd hd (xF7 n)
  | cons c r => exact ⟨c,r,rfl⟩
 rw [e] at hp ⊢
 have hc : 48 ≤ c.toNat := by
  simp only [Lib.parseUint10] at hp
  split at hp
  ·rename_i hc; exact hc.1
  ·cases hp
 rw [yX5 hc,hp]
 simp only
 rw [if_neg (by omega)]
theorem xa1 (s : Bs) : yk6 s = true ↔ ∃ n : Nat,n ≤ 65536 ∧ s = Lib.decDigits n := by
 constructor
 ·intro h
  unfold yk6 at h
  split at h
  ·rename_i v hv
   simp only [Bool.and_eq_true,decide_eq_true_eq] at h
   obtain ⟨⟨h1,h2⟩,h3⟩ := h
   exact ⟨v.toNat,by omega,by rw [← h1,zA7 h2]⟩
  ·cases h
 ·rintro ⟨n,hn,rfl⟩
  unfold yk6
  rw [xC0 (by omega)]
  simp only [Bool.and_eq_true,decide_eq_true_eq]
  refine ⟨⟨?_,by omega⟩,by omega⟩
  rw [zA7 (by omega)]; simp
end Go.Proofs.YtopiadllkglamaaGreatDoor
namespace Go.Proofs.YtopiadllkglamaaGreatDoor
open Go.RowKit Go.IntWalk
theorem index_one (c : UInt8) : ∀ s : Bs,(c ∈ s → ∃ a b,s = a ++ c :: b ∧ c ∉ a ∧ Lib.cut s [c] = (a,b,true)) ∧ (c ∉ s → Lib.cut s [c] = (s,[],false)) := by
 intro s
 refine ⟨fun h => ?_,fun h => ?_⟩
 ·rcases Lib.index_spec s [c] with ⟨h1,h2⟩ | ⟨i,h1,h2,h3,h4⟩
  ·obtain ⟨j,hj,hjc⟩ := List.mem_iff_getElem.1 h
   have := h2 j (by omega)
   simp only [Lib.occAt,List.drop_eq_getElem_cons hj,hjc] at this
   simp at this
  ·have hr := Lib.index_room s [c] (by omega)
   rw [h1] at hr
   have hi : i < s.length := by simp at hr; omega
   have hd := List.drop_eq_getElem_cons hi
   have hc : s[i] = c := by
    simp only [Lib.occAt,hd] at h3
    have h5 : c = s[i] := by simpa [List.isPrefixOf] using h3
    exact h5.symm
   refine ⟨s.take i,s.drop (i + 1),?_,?_,?_⟩
   ·conv => lhs; rw [← List.take_append_drop i s,hd,hc]
   ·intro hm
    obtain ⟨j,hj,hjc⟩ := List.mem_iff_getElem.1 hm
    have hj2 : j < i := by simp at hj; omega
    have := h4 j hj2
    simp only [List.getElem_take] at hjc
    simp only [Lib.occAt,List.drop_eq_getElem_cons (show j < s.length by omega),hjc] at this
    simp at this
   ·unfold Lib.cut
    rw [if_pos (by rw [h1]; omega),h1]; simp
 ·rcases Lib.index_spec s [c] with ⟨h1,h2⟩ | ⟨i,h1,h2,h3,h4⟩
  ·unfold Lib.cut
   rw [if_neg (by rw [h1]; omega)]
  ·exfalso
   have hr := Lib.index_room s [c] (by omega)
   rw [h1] at hr
   have hi : i < s.length := by simp at hr; omega
   have hd := List.drop_eq_getElem_cons hi
   simp only [Lib.occAt,hd] at h3
   have hc : c = s[i] := by simpa [List.isPrefixOf] using h3
   exact h (by rw [hc]; exact List.getElem_mem hi)
theorem zo2 (c : UInt8) : ∀ (a b : Bs),c ∉ a → za9 c (a ++ c :: b) = a :: za9 c b
 | [],b,_ => by simp [za9]
 | x :: a,b,h => by
  have hx : x ≠ c := fun e => h (by simp [e])
  have := zo2 c a b (fun e => h (by simp [e]))
  simp [za9,hx,this]
theorem zr9 (c : UInt8) : ∀ (a : Bs),c ∉ a → za9 c a = [a]
 | [],_ => by simp [za9]
 | x :: a,h => by
  have hx : x ≠ c := fun e => h (by simp [e])
  have := zr9 c a (fun e => h (by simp [e]))
  simp [za9,hx,this]
theorem zI2 (c : UInt8) : ∀ (s : Bs) (w : Bs),w ∈ za9 c s → w.length ≤ s.length
 | [],w,h => by simp [za9] at h; subst h; simp
 | b :: r,w,h => by
  have ih := zI2 c r
  unfold za9 at h
  split at h
  ·rcases List.mem_cons.1 h with rfl | h
   ·simp
   ·have := ih w h; simp; omega
  ·cases hs : za9 c r with
   | nil => exact absurd hs (zq2 c r)
   | cons x xs =>
    simp only [hs] at h
    rcases List.mem_cons.1 h with rfl | h
    ·have := ih x (by rw [hs]; simp); simp; omega
    ·have := ih w (by rw [hs]; simp [h]); simp; omega
theorem yg1 (x : Bs) : ∀ (xs : List Bs) (i : Nat),(!ltB (zu4 x i xs) 0) = xs.contains x
 | [],i => by simp [zu4,ltB]
 | y :: r,i => by
  simp only [zu4,List.contains_cons]
  by_cases h : x = y
  ·subst h; simp [ltB]
  ·have := yg1 x r (i + 1)
   simp [h,this]
end Go.Proofs.YtopiadllkglamaaGreatDoor
namespace Go.Proofs.YtopiadllkglamaaGreatDoor
open Go.RowKit Go.IntWalk
def rowW (w : List Bs) : List AV := [.sl (w.map rStr.enc)]
def zx2 (o : Option (List (List Bs))) : AV := match o with
 | some l => .tup [.sl (l.map rowW),.bool true]
 | none => .tup [.sl [],.bool false]
def yC7 : List AV → Option AV
 | [.str s] => if s.length < 4294967281 then some (zx2 (zA1 s)) else none
 | _ => none
theorem zL3 {l rest : Bs} (hl : (10 : UInt8) ∉ l) : zA1 (l ++ 10 :: rest) = if (za9 32 l).contains [] then none else (zA1 rest).map (za9 32 l :: ·) := by
 unfold zA1
 rw [zo2 10 l rest hl]
 obtain ⟨x,xs,e⟩ : ∃ x xs,za9 10 rest = x :: xs := by
  cases h : za9 10 rest with
  | nil => exact absurd h (zq2 10 rest)
  | cons x xs => exact ⟨x,xs,rfl⟩
 rw [e]; rfl
section
variable {G : Gam} {h : Heap}
theorem yv9 (hS : G Fn.q70 = some (.pure zB5)) {l : Bs} {c : UInt8} (hl : l.length < 4294967281) : ∀ st h,opV G st h (.call Fn.q70) (some [.str l,.str [c]]) = some (.sl ((za9 c l).map rStr.enc),h) := fun st h =>
 zb5 hS rfl (yj7 (A := eStr) (B := eStr) (R := eSl rStr) (x := l) (y := [c]) (by simp only [hl,if_true])) (.inr rfl)
theorem xY2 (hK : G Fn.q14 = some (.pure zg9)) {ws : List Bs} {x : Bs} (hl : ws.length ≤ big) : ∀ st h,opV G st h (.call Fn.q14) (some [.sl (ws.map rStr.enc),.str x]) = some (.bool (ws.contains x),h) := fun st h =>
 zb5 hK rfl (by
  have hd := zt4 rStr ws
  have e : zu9 (ws.map rStr.enc) = some ws := by
   clear hd hl
   induction ws with
   | nil => rfl
   | cons w r ih => simp [zu9] at ih ⊢; simpa using ih
  simp only [zg9,e,hl,if_true,yg1]) (.inl rfl)
end
theorem xa8 (G : Gam) (hC : G Fn.strings_Cut = some (.pure yr1)) (hS : G Fn.q70 = some (.pure zB5)) (hK : G Fn.q14 = some (.pure zg9)) (fin : Option (List (List Bs))) :
  ∀ (m : Nat) (s : Bs) (os : List (List Bs)),s.length ≤ m → s.length + os.length < 4294967281 → fin = (zA1 s).map (os ++ ·) →
  zi3 G [5,6,7,8] Mc.bundle_rows_L0 2 [.blk 0,.seq (.seq (.reg [⟨none,some 30,false,.mv,[.t 4]⟩,⟨none,some 2,true,.mv,[.t 30]⟩,⟨none,some 3,true,.mv,[.c (.bool true)]⟩]) .ret)] (zb0 Rs.bundle_rows (zx2 fin))
   [(0,.str s),(2,.own 0 0 0),(3,.bool false),(4,.own 1 os.length os.length),(5,.junk),(6,.junk),(7,.junk),(8,.junk)] [.arr 1 0 [] true,.arr 1 os.length (os.map rowW) true]
 | m,s,os,hm,hsz,hfin => by
  refine zb3 (Mc.bundle_rows_L0.eq_1) ?_
  have htr : ∀ fr,zm1 2 fr = true → trunc 2 fr [Blk.arr 1 0 [] true,.arr 1 os.length (os.map rowW) true] = [.arr 1 0 [] true,.arr 1 os.length (os.map rowW) true] := fun fr hf => by
   unfold trunc; rw [hf]; rfl
  rw [htr _ rfl]
  have hro : zb7 [Blk.arr 1 0 [] true,.arr 1 os.length (os.map rowW) true] (.own 1 os.length os.length) = some (os.map rowW) := zr2 (l := 1) rfl (by simp)
  by_cases hs0 : s = []
  ·subst hs0
   have hf : fin = some os := by rw [hfin]; simp [zA1,za9,yu0]
   subst hf
   simp [zx2,zb0,Rs.bundle_rows,hro]
  ·have hsb : (s == []) = false := by simpa using hs0
   have c1 : ∀ st h,opV G st h (.call Fn.strings_Cut) (some [.str s,.str [10]]) = some (.tup [.str (Lib.cut s [10]).1,.str (Lib.cut s [10]).2.1,.bool (Lib.cut s [10]).2.2],h) := fun st h => zb5 hC (us := [.str s,.str [10]]) rfl (by
    simp only [yr1]; rw [if_pos (by omega)]) (.inl rfl)
   have fail : ∀ (a b : Blk),zb7 [a,b,.arr 1 0 [] true] (.own 2 0 0) = some [] := fun a b => rfl
   by_cases hin : (10 : UInt8) ∈ s
   ·obtain ⟨l,rest,rfl,hl,hcut⟩ := (index_one 10 s).1 hin
    rw [hcut] at c1
    simp only at c1
    simp only [List.length_append,List.length_cons] at hm hsz
    have c2 := yv9 (G := G) hS (l := l) (c := 32) (by omega)
    have c3 := xY2 (G := G) hK (ws := za9 32 l) (x := []) (by have := zu0 32 l; unfold big; omega)
    rw [zL3 hl] at hfin
    cases hc : (za9 32 l).contains ([] : Bs) with
    | true =>
     have hf : fin = none := by rw [hfin,hc]; rfl
     subst hf
     rw [hc] at c3
     simp [hsb,c1,c2,c3,zx2,zb0,Rs.bundle_rows,fail]
    | false =>
     rw [hc] at c3 hfin
     obtain ⟨m,rfl⟩ : ∃ m',m = m' + 1 := ⟨m - 1,by omega⟩
     have ap := ym8 (G := G) (s := false) (h := [.arr 1 0 [] true,.arr 1 os.length (os.map rowW) true]) (e := rowW) (n := 1) (b := 24) (l := 1) (os := os) (x := za9 32 l) rfl rfl (by omega) (by unfold big; omega)
     simp only [rowW] at ap
     have ih := xa8 G hC hS hK fin m rest (os ++ [za9 32 l]) (by omega) (by simp; omega) (by
      rw [hfin]
      cases zA1 rest with
      | none => rfl
      | some r => simp)
     simp [hsb,c1,c2,c3,zm0,owns,zj6,view,zc3,zt1,oneC,ap,-List.length_append,-List.map_append]
     refine ze8 ?_
     simpa [zc0,trunc,rowW] using ih
   ·have hcut := (index_one 10 s).2 hin
    rw [hcut] at c1
    simp only at c1
    have c2 := yv9 (G := G) hS (l := s) (c := 32) (by omega)
    have hf : fin = none := by rw [hfin]; unfold zA1; rw [zr9 10 s hin]; simp [yu0,hs0]
    subst hf
    simp [hsb,c1,c2,zx2,zb0,Rs.bundle_rows,fail]
theorem xJ1 {G : Gam} (hC : G Fn.strings_Cut = some (.pure yr1)) (hS : G Fn.q70 = some (.pure zB5)) (hK : G Fn.q14 = some (.pure zg9)) : ∀ args r,yC7 args = some r → wpM G Mc.bundle_rows (zb0 Rs.bundle_rows r) [] (za2 Ks.bundle_rows args) [] := by
 intro args r hF
 unfold yC7 at hF
 split at hF
 ·rename_i s
  split at hF
  ·rename_i hb
   injection hF with hF; subst hF
   have ih := xa8 G hC hS hK (zA1 s) s.length s [] (Nat.le_refl _) (by simpa using hb) (by cases zA1 s <;> simp)
   rw [zc8]
   simp [Mc.bundle_rows,Ks.bundle_rows,za2]
   simpa using ih
  ·cases hF
 ·cases hF
end Go.Proofs.YtopiadllkglamaaGreatDoor
namespace Go.Proofs.YtopiadllkglamaaGreatDoor
open Go.RowKit Go.IntWalk
end Go.Proofs.YtopiadllkglamaaGreatDoor
