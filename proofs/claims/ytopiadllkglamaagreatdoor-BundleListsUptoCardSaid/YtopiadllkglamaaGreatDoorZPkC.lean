/- The order of strings. The reference: trees. The reference: a tree is checked. Manifests: what is read of them,as the program and as the reference reads: plain laws. Small laws on cutting and splittin -/
import Derived.Test.YtopiadllkglamaaGreatDoorZAm10
import Derived.Test.YtopiadllkglamaaGreatDoorZRmI
import Derived.Test.YtopiadllkglamaaGreatDoorZRmA
import Derived.Test.YtopiadllkglamaaGreatDoorZRmD
import Derived.Lib.AtoiAll
import Derived.Test.YtopiadllkglamaaGreatDoorZRmJ
import Derived.Test.YtopiadllkglamaaGreatDoorZRecMc
namespace Go.Proofs.YtopiadllkglamaaGreatDoor
open Go.RowKit
theorem less_or (a b : Bs) : (Op.bytesLess a b || a == b) = !(Op.bytesLess b a) := by
 induction a generalizing b with
 | nil => cases b <;> rfl
 | cons x xs ih =>
  cases b with
  | nil => rfl
  | cons y ys =>
   have h := ih ys
   simp only [Op.bytesLess]
   by_cases hxy : x = y
   ·subst hxy
    simpa using h
   ·have hyx : ¬ y = x := fun e => hxy e.symm
    have hn : x.toNat ≠ y.toNat := fun e => hxy (UInt8.toNat_inj.1 e)
    have e1 : (x == y) = false := by simp [hxy]
    have e2 : (y == x) = false := by simp [hyx]
    have e3 : (x :: xs == y :: ys) = false := by simp [hxy]
    rw [e1,e2,e3]
    simp only [Bool.false_and,Bool.or_false]
    rw [Bool.eq_iff_iff]
    simp only [decide_eq_true_eq,Bool.not_eq_true',decide_eq_false_iff_not,UInt8.lt_iff_toNat_lt]
    omega
end Go.Proofs.YtopiadllkglamaaGreatDoor
namespace Go.Proofs.YtopiadllkglamaaGreatDoor
open Go.RowKit Go.IntWalk
theorem chk03_L1 (G : Gam) (hB : G Fn.q47 = some (.pure F_below)) (t : List Touch) (hb : t.length ≤ 64) (ht : ∀ f ∈ t,f.path.length < 4294967281) (i : Nat) (hi : i ≤ t.length) (f : Touch) (r : Int) {ks : List MK} : ∀ (rest : List Touch) (j : Nat),(t.take i).drop j = rest → j ≤ i →
  ((rest.any fun g => belowE f.path g.path) = true → r = 6) →
  ((rest.any fun g => belowE f.path g.path) = false → ∀ env j',exM G .normal ks (pureQ Rs.q45 (.int .i64 r)) env [(0,.sl (touchRows t)),(2,.int .i64 0),(3,.int .i64 i),(4,.ptr 0 0),(5,j'),(9,.sl (touchRows t)),(10,.int .i64 t.length),(11,.int .i64 i)] [.cells [.str f.path,.str f.dig]]) →
  headM G [] Mc.q45_L1 1 (.blk 2 :: ks) (pureQ Rs.q45 (.int .i64 r)) [(0,.sl (touchRows t)),(2,.int .i64 0),(3,.int .i64 i),(4,.ptr 0 0),(5,.int .i64 j),(9,.sl (touchRows t)),(10,.int .i64 t.length),(11,.int .i64 i)] [.cells [.str f.path,.str f.dig]]
 | [],j,hd,hj,h6,hk => by
  have hi2 := drop_nil hd
  rw [List.length_take] at hi2
  have e : j = i := by omega
  subst e
  have hl : ltB (j : Int) (j : Int) = false := ltB_not.2 (by omega)
  refine head_go (Mc.q45_L1.eq_1) ?_
  simp [vtrunc_len (n := 1) (h := [.cells [.str f.path,.str f.dig]]) rfl]
  exact hk rfl _ _
 | g :: rest,j,hd,hj,h6,hk => by
  obtain ⟨hlt,hx,hxd⟩ := drop_cons hd
  rw [List.length_take] at hlt
  have hx2 : t[j]? = some g := by rw [List.getElem?_take_of_lt (by omega)] at hx; exact hx
  have hl : ltB (j : Int) (i : Int) = true := ltB_iff.2 (by omega)
  have hw := wrap1 (i := j) (by unfold big; omega)
  have hrow := touchRows_get hx2
  have hgl := ht g (List.mem_of_getElem? hx2)
  have ir : ∀ st h,opV G st h (.iadr 2) (some [.sl (touchRows t),.int .i64 j]) = some (.fptr [.str g.path,.str g.dig] 0,h) := fun st h => by
   rw [opV_quiet rfl]; simp [evalPure,iadrAV,hrow]
  have cb : ∀ st h,opV G st h (.call Fn.q47) (some [.str f.path,.str g.path]) = some (.bool (belowE f.path g.path),h) := fun st h => op_call hB (us := [.str f.path,.str g.path]) rfl (by simp only [F_below]; rw [if_pos (by unfold big; omega)]) (.inl rfl)
  refine head_go (Mc.q45_L1.eq_1) ?_
  cases hbl : belowE f.path g.path with
  | true =>
   rw [hbl] at cb
   have hr := h6 (by simp [hbl])
   subst hr
   simp [hl,vtrunc_len (n := 1) (h := [.cells [.str f.path,.str f.dig]]) rfl,ir,cb,cut,mkVal,pureQ,Rs.q45]
  | false =>
   rw [hbl] at cb
   have ih := chk03_L1 G hB t hb ht i hi f r (ks := ks) rest (j + 1) hxd (by omega) (fun h => h6 (by simp [hbl,h])) (fun h => hk (by simp [hbl,h]))
   simp [hl,vtrunc_len (n := 1) (h := [.cells [.str f.path,.str f.dig]]) rfl,ir,cb,hw,cut,mkVal]
   simpa using ih
end Go.Proofs.YtopiadllkglamaaGreatDoor
namespace Go.Proofs.YtopiadllkglamaaGreatDoor
open Go.RowKit Go.IntWalk
theorem check03_L0 (G : Gam) (hP : G Fn.q55 = some (.pure F_Path)) (hB : G Fn.q47 = some (.pure F_below)) (t : List Touch) (hb : t.length ≤ 64)
  (ht : ∀ f ∈ t,f.path.length < 4294967281) (r : Int) : ∀ (rest : List Touch) (i : Nat) (x y z : AV) (H : Heap),t.drop i = rest → i ≤ t.length → r = treeFrom (t.take i) rest →
  headM G [3,4,5] Mc.q45_L0 0 [.blk 0,.seq (.seq (.reg [⟨none,some 2,true,.mv,[.c (.int .i64 0)]⟩]) .ret)] (pureQ Rs.q45 (.int .i64 r))
   [(0,.sl (touchRows t)),(2,.int .i64 0),(3,x),(4,y),(5,z),(9,.sl (touchRows t)),(10,.int .i64 t.length),(11,.int .i64 i)] H
 | [],i,x,y,z,H,hd,hi,hr => by
  have hi2 := drop_nil hd
  have hl : ltB (i : Int) (t.length : Int) = false := ltB_not.2 (by omega)
  simp only [treeFrom] at hr
  subst hr
  refine head_go (Mc.q45_L0.eq_1) ?_
  simp [hl,trunc,lowFr,low,lowH,pureQ,Rs.q45]
 | f :: rest,i,x,y,z,H,hd,hi,hr => by
  obtain ⟨hlt,hx,hxd⟩ := drop_cons hd
  have hl : ltB (i : Int) (t.length : Int) = true := ltB_iff.2 (by omega)
  have hmem : f ∈ t := List.mem_of_getElem? hx
  have hpl := ht f hmem
  have hrow := touchRows_get hx
  have hw : IntKind.i64.wrap ((i : Int) + 1) = ((i + 1 : Nat) : Int) := wrap1 (by unfold big; omega)
  have ir : ∀ st h,opV G st h (.iadr 2) (some [.sl (touchRows t),.int .i64 i]) = some (.fptr [.str f.path,.str f.dig] 0,h) := fun st h => by
   rw [opV_quiet rfl]; simp [evalPure,iadrAV,hrow]
  have cp : ∀ st h,opV G st h (.call Fn.q55) (some [.str f.path]) = some (.int .i64 (if pathOK f.path then 0 else 2),h) := fun st h => op_call hP (us := [.str f.path]) rfl (F1_use (A := eStr) (R := eInt) (x := f.path) (by simp [hpl])) (.inl rfl)
  rw [treeFrom] at hr
  refine head_go (Mc.q45_L0.eq_1) ?_
  cases hp : pathOK f.path with
  | false =>
   rw [if_pos hp] at hr
   subst hr
   rw [hp] at cp
   have q : eqB 2 0 = false := rfl
   simp [hl,trunc,lowFr,low,lowH,ir,cp,q,oneC,AV.cells,setAt,cut,mkVal,pureQ,Rs.q45]
  | true =>
   rw [if_neg (by simp [hp])] at hr
   rw [hp] at cp
   by_cases hd : 65536 < f.dig.length
   ·rw [if_pos hd] at hr
    subst hr
    have q : ltB 65536 (f.dig.length : Int) = true := ltB_iff.2 (by omega)
    simp [hl,trunc,lowFr,low,lowH,ir,cp,q,lenAV,oneC,AV.cells,setAt,cut,mkVal,pureQ,Rs.q45]
   ·rw [if_neg hd] at hr
    have q : ltB 65536 (f.dig.length : Int) = false := ltB_not.2 (by omega)
    have htk : t.take (i + 1) = t.take i ++ [f] := by rw [List.take_add_one,hx]; rfl
    have ih := fun X Y Z H' hr' => check03_L0 G hP hB t hb ht r rest (i + 1) X Y Z H' hxd (by omega) hr'
    rw [htk] at ih
    by_cases hi0 : i = 0
    ·subst hi0
     have g0 : ltB 0 0 = false := rfl
     have w1 : IntKind.i64.wrap 1 = 1 := rfl
     rw [if_neg (by simp),if_neg (by simp)] at hr
     have ih2 := fun X Y Z H' => ih X Y Z H' hr
     have inner := fun ks h => chk03_L1 G hB t hb ht 0 (by omega) f r (ks := ks) [] 0 (by simp) (by omega) (fun h => by simp at h) h
     simp at ir hl inner
     simp [hl,trunc,lowFr,low,lowH,ir,cp,q,lenAV,oneC,AV.cells,setAt,cut,mkVal]
     refine inner _ fun env j' => ?_
     simp [w1]
     simpa using ih2 _ _ _ _
    ·obtain ⟨g,hg⟩ : ∃ g,t[i - 1]? = some g := ⟨_,List.getElem?_eq_getElem (by omega)⟩
     have hlast := last_take (by omega) hg
     have g0 : ltB 0 (i : Int) = true := ltB_iff.2 (by omega)
     have ws : IntKind.i64.wrap ((i : Int) - 1) = (i : Int) - 1 := i64_in _ ⟨by omega,by omega⟩
     have hgr := touchRows_get hg
     have ir2 : ∀ st h,opV G st h (.iadr 2) (some [.sl (touchRows t),.int .i64 ((i : Int) - 1)]) = some (.fptr [.str g.path,.str g.dig] 0,h) := fun st h => by
      have e : ((i : Int) - 1) = ((i - 1 : Nat) : Int) := by omega
      rw [e,opV_quiet rfl]; simp [evalPure,iadrAV,hgr]
     have bg : binAV .leq (.str f.path) (.str g.path) = some (.bool (!(Op.bytesLess g.path f.path))) := by simp only [binAV,strBin,less_or]
     rw [hlast] at hr
     cases hbl : Op.bytesLess g.path f.path with
     | false =>
      rw [hbl] at bg
      simp only [Option.map_some,hbl,if_true] at hr
      subst hr
      simp [hl,trunc,lowFr,low,lowH,ir,ir2,cp,q,g0,ws,bg,lenAV,oneC,AV.cells,setAt,cut,mkVal,pureQ,Rs.q45]
     | true =>
      rw [hbl] at bg
      simp only [Option.map_some,hbl,Option.some.injEq,Bool.true_eq_false,if_false] at hr
      have inner := fun ks h6 h => chk03_L1 G hB t hb ht i hi f r (ks := ks) (t.take i) 0 rfl (by omega) h6 h
      simp only [Int.natCast_zero] at inner
      simp [hl,trunc,lowFr,low,lowH,ir,ir2,cp,q,g0,ws,bg,lenAV,oneC,AV.cells,setAt,cut,mkVal]
      refine inner _ (fun h6 => by rw [hr,if_pos h6]) fun h env j' => ?_
      rw [h] at hr
      simp only [Bool.false_eq_true,if_false] at hr
      have ih2 := fun X Y Z H' => ih X Y Z H' hr
      simp [hw]
      simpa using ih2 _ _ _ _
theorem treeCheck03_ok {G : Gam} (hP : G Fn.q55 = some (.pure F_Path)) (hB : G Fn.q47 = some (.pure F_below)) :
  ∀ args r,F_treeCheck args = some r → wpM G Mc.q45 (pureQ Rs.q45 r) [] (frInit Ks.q45 args) [] := by
 intro args r hF
 unfold F_treeCheck at hF
 split at hF
 ·rename_i rows
  split at hF
  ·rename_i t hdec
   split at hF
   ·rename_i hall
    injection hF with hF; subst hF
    have hrows : rows = touchRows t := decAll_of (fun r x => decTouch_of) hdec
    subst hrows
    have ht : ∀ f ∈ t,f.path.length < 4294967281 := by simpa using hall
    rw [wpM_go]
    by_cases hb : 64 < t.length
    ·have q : ltB 64 (t.length : Int) = true := ltB_iff.2 (by omega)
     have e : treeE t = 10 := by unfold treeE; rw [if_pos hb]
     rw [e]
     simp [Mc.q45,frInit,Ks.q45,lenAV,q,pureQ,Rs.q45]
    ·have q : ltB 64 (t.length : Int) = false := ltB_not.2 (by omega)
     have e : treeE t = treeFrom [] t := by unfold treeE; rw [if_neg hb]
     rw [e]
     have ih := check03_L0 G hP hB t (by omega) ht _ t 0 .junk .junk .junk [] rfl (by omega) rfl
     simp [Mc.q45,frInit,Ks.q45,lenAV,q]
     simpa using ih
   ·cases hF
  ·cases hF
 ·cases hF
end Go.Proofs.YtopiadllkglamaaGreatDoor
namespace Go.Proofs.YtopiadllkglamaaGreatDoor
open Go.RowKit Go.IntWalk
def rowsL : List Bs → Option (List (List Bs))
 | [] => none
 | [l] => if l = [] then some [] else none
 | l :: ls => if (splitBy 32 l).contains [] then none else (rowsL ls).map (splitBy 32 l :: ·)
def rowsE (s : Bs) : Option (List (List Bs)) := rowsL (splitBy 10 s)
def wPaper : Bs := [112,97,112,101,114]
def wSource : Bs := [115,111,117,114,99,101]
structure Stand where
 np : Nat
 ns : Nat
 lp : Bs
 ls : Bs
end Go.Proofs.YtopiadllkglamaaGreatDoor
namespace Go.Proofs.YtopiadllkglamaaGreatDoor
open Go.RowKit Go.IntWalk
theorem index_one (c : UInt8) : ∀ s : Bs,(c ∈ s → ∃ a b,s = a ++ c :: b ∧ c ∉ a ∧ Lib.cut s [c] = (a,b,true)) ∧ (c ∉ s → Lib.cut s [c] = (s,[],false)) := by
 intro s
 refine ⟨fun h => ?_,fun h => ?_⟩
 ·rcases Lib.index_spec s [c] with ⟨h1,h2⟩ | ⟨i,h1,h2,h3,h4⟩
  ·obtain ⟨j,hj,hjc⟩ := List.mem_iff_getElem.1 h
   have := h2 j (by omega)
   simp only [Lib.occAt,List.drop_eq_getElem_cons hj,hjc] at this
   simp at this
  ·have hr := Lib.index_room s [c] (by omega)
   rw [h1] at hr
   have hi : i < s.length := by simp at hr; omega
   have hd := List.drop_eq_getElem_cons hi
   have hc : s[i] = c := by
    simp only [Lib.occAt,hd] at h3
    have h5 : c = s[i] := by simpa [List.isPrefixOf] using h3
    exact h5.symm
   refine ⟨s.take i,s.drop (i + 1),?_,?_,?_⟩
   ·conv => lhs; rw [← List.take_append_drop i s,hd,hc]
   ·intro hm
    obtain ⟨j,hj,hjc⟩ := List.mem_iff_getElem.1 hm
    have hj2 : j < i := by simp at hj; omega
    have := h4 j hj2
    simp only [List.getElem_take] at hjc
    simp only [Lib.occAt,List.drop_eq_getElem_cons (show j < s.length by omega),hjc] at this
    simp at this
   ·unfold Lib.cut
    rw [if_pos (by rw [h1]; omega),h1]; simp
 ·rcases Lib.index_spec s [c] with ⟨h1,h2⟩ | ⟨i,h1,h2,h3,h4⟩
  ·unfold Lib.cut
   rw [if_neg (by rw [h1]; omega)]
  ·exfalso
   have hr := Lib.index_room s [c] (by omega)
   rw [h1] at hr
   have hi : i < s.length := by simp at hr; omega
   have hd := List.drop_eq_getElem_cons hi
   simp only [Lib.occAt,hd] at h3
   have hc : c = s[i] := by simpa [List.isPrefixOf] using h3
   exact h (by rw [hc]; exact List.getElem_mem hi)
theorem splitBy_mid (c : UInt8) : ∀ (a b : Bs),c ∉ a → splitBy c (a ++ c :: b) = a :: splitBy c b
 | [],b,_ => by simp [splitBy]
 | x :: a,b,h => by
  have hx : x ≠ c := fun e => h (by simp [e])
  have := splitBy_mid c a b (fun e => h (by simp [e]))
  simp [splitBy,hx,this]
theorem splitBy_none (c : UInt8) : ∀ (a : Bs),c ∉ a → splitBy c a = [a]
 | [],_ => by simp [splitBy]
 | x :: a,h => by
  have hx : x ≠ c := fun e => h (by simp [e])
  have := splitBy_none c a (fun e => h (by simp [e]))
  simp [splitBy,hx,this]
theorem splitBy_mem (c : UInt8) : ∀ (s : Bs) (w : Bs),w ∈ splitBy c s → w.length ≤ s.length
 | [],w,h => by simp [splitBy] at h; subst h; simp
 | b :: r,w,h => by
  have ih := splitBy_mem c r
  unfold splitBy at h
  split at h
  ·rcases List.mem_cons.1 h with rfl | h
   ·simp
   ·have := ih w h; simp; omega
  ·cases hs : splitBy c r with
   | nil => exact absurd hs (splitBy_ne c r)
   | cons x xs =>
    simp only [hs] at h
    rcases List.mem_cons.1 h with rfl | h
    ·have := ih x (by rw [hs]; simp); simp; omega
    ·have := ih w (by rw [hs]; simp [h]); simp; omega
theorem idx_nonneg (x : Bs) : ∀ (xs : List Bs) (i : Nat),(!ltB (idxFrom x i xs) 0) = xs.contains x
 | [],i => by simp [idxFrom,ltB]
 | y :: r,i => by
  simp only [idxFrom,List.contains_cons]
  by_cases h : x = y
  ·subst h; simp [ltB]
  ·have := idx_nonneg x r (i + 1)
   simp [h,this]
end Go.Proofs.YtopiadllkglamaaGreatDoor
namespace Go.Proofs.YtopiadllkglamaaGreatDoor
open Go.RowKit Go.IntWalk
def rowW (w : List Bs) : List AV := [.sl (w.map rStr.enc)]
def resRows (o : Option (List (List Bs))) : AV := match o with
 | some l => .tup [.sl (l.map rowW),.bool true]
 | none => .tup [.sl [],.bool false]
def F_rows : List AV → Option AV
 | [.str s] => if s.length < 4294967281 then some (resRows (rowsE s)) else none
 | _ => none
theorem rowsE_mid {l rest : Bs} (hl : (10 : UInt8) ∉ l) : rowsE (l ++ 10 :: rest) = if (splitBy 32 l).contains [] then none else (rowsE rest).map (splitBy 32 l :: ·) := by
 unfold rowsE
 rw [splitBy_mid 10 l rest hl]
 obtain ⟨x,xs,e⟩ : ∃ x xs,splitBy 10 rest = x :: xs := by
  cases h : splitBy 10 rest with
  | nil => exact absurd h (splitBy_ne 10 rest)
  | cons x xs => exact ⟨x,xs,rfl⟩
 rw [e]; rfl
section
variable {G : Gam} {h : Heap}
theorem op_split1 (hS : G Fn.q67 = some (.pure F_Split)) {l : Bs} {c : UInt8} (hl : l.length < 4294967281) : ∀ st h,opV G st h (.call Fn.q67) (some [.str l,.str [c]]) = some (.sl ((splitBy c l).map rStr.enc),h) := fun st h =>
 op_call hS rfl (F2_use (A := eStr) (B := eStr) (R := eSl rStr) (x := l) (y := [c]) (by simp only [hl,if_true])) (.inr rfl)
theorem op_has (hK : G Fn.q18 = some (.pure F_ContainsS)) {ws : List Bs} {x : Bs} (hl : ws.length ≤ big) : ∀ st h,opV G st h (.call Fn.q18) (some [.sl (ws.map rStr.enc),.str x]) = some (.bool (ws.contains x),h) := fun st h =>
 op_call hK rfl (by
  have hd := decRows_de rStr ws
  have e : decStrs (ws.map rStr.enc) = some ws := by
   clear hd hl
   induction ws with
   | nil => rfl
   | cons w r ih => simp [decStrs] at ih ⊢; simpa using ih
  simp only [F_ContainsS,e,hl,if_true,idx_nonneg]) (.inl rfl)
end
theorem rows_L0 (G : Gam) (hC : G Fn.strings_Cut = some (.pure F_Cut)) (hS : G Fn.q67 = some (.pure F_Split)) (hK : G Fn.q18 = some (.pure F_ContainsS)) (fin : Option (List (List Bs))) :
  ∀ (m : Nat) (s : Bs) (os : List (List Bs)),s.length ≤ m → s.length + os.length < 4294967281 → fin = (rowsE s).map (os ++ ·) →
  headM G [5,6,7,8] Mc.bundle_rows_L0 2 [.blk 0,.seq (.seq (.reg [⟨none,some 30,false,.mv,[.t 4]⟩,⟨none,some 2,true,.mv,[.t 30]⟩,⟨none,some 3,true,.mv,[.c (.bool true)]⟩]) .ret)] (pureQ Rs.bundle_rows (resRows fin))
   [(0,.str s),(2,.own 0 0 0),(3,.bool false),(4,.own 1 os.length os.length),(5,.junk),(6,.junk),(7,.junk),(8,.junk)] [.arr 1 0 [] true,.arr 1 os.length (os.map rowW) true]
 | m,s,os,hm,hsz,hfin => by
  refine head_go (Mc.bundle_rows_L0.eq_1) ?_
  have htr : ∀ fr,lowFr 2 fr = true → trunc 2 fr [Blk.arr 1 0 [] true,.arr 1 os.length (os.map rowW) true] = [.arr 1 0 [] true,.arr 1 os.length (os.map rowW) true] := fun fr hf => by
   unfold trunc; rw [hf]; rfl
  rw [htr _ rfl]
  have hro : rowsOf [Blk.arr 1 0 [] true,.arr 1 os.length (os.map rowW) true] (.own 1 os.length os.length) = some (os.map rowW) := rows_own (l := 1) rfl (by simp)
  by_cases hs0 : s = []
  ·subst hs0
   have hf : fin = some os := by rw [hfin]; simp [rowsE,splitBy,rowsL]
   subst hf
   simp [resRows,pureQ,Rs.bundle_rows,hro]
  ·have hsb : (s == []) = false := by simpa using hs0
   have c1 : ∀ st h,opV G st h (.call Fn.strings_Cut) (some [.str s,.str [10]]) = some (.tup [.str (Lib.cut s [10]).1,.str (Lib.cut s [10]).2.1,.bool (Lib.cut s [10]).2.2],h) := fun st h => op_call hC (us := [.str s,.str [10]]) rfl (by
    simp only [F_Cut]; rw [if_pos (by omega)]) (.inl rfl)
   have fail : ∀ (a b : Blk),rowsOf [a,b,.arr 1 0 [] true] (.own 2 0 0) = some [] := fun a b => rfl
   by_cases hin : (10 : UInt8) ∈ s
   ·obtain ⟨l,rest,rfl,hl,hcut⟩ := (index_one 10 s).1 hin
    rw [hcut] at c1
    simp only at c1
    simp only [List.length_append,List.length_cons] at hm hsz
    have c2 := op_split1 (G := G) hS (l := l) (c := 32) (by omega)
    have c3 := op_has (G := G) hK (ws := splitBy 32 l) (x := []) (by have := splitBy_len 32 l; unfold big; omega)
    rw [rowsE_mid hl] at hfin
    cases hc : (splitBy 32 l).contains ([] : Bs) with
    | true =>
     have hf : fin = none := by rw [hfin,hc]; rfl
     subst hf
     rw [hc] at c3
     simp [hsb,c1,c2,c3,resRows,pureQ,Rs.bundle_rows,fail]
    | false =>
     rw [hc] at c3 hfin
     obtain ⟨m,rfl⟩ : ∃ m',m = m' + 1 := ⟨m - 1,by omega⟩
     have ap := op_app1 (G := G) (s := false) (h := [.arr 1 0 [] true,.arr 1 os.length (os.map rowW) true]) (e := rowW) (n := 1) (b := 24) (l := 1) (os := os) (x := splitBy 32 l) rfl rfl (by omega) (by unfold big; omega)
     simp only [rowW] at ap
     have ih := rows_L0 G hC hS hK fin m rest (os ++ [splitBy 32 l]) (by omega) (by simp; omega) (by
      rw [hfin]
      cases rowsE rest with
      | none => rfl
      | some r => simp)
     simp [hsb,c1,c2,c3,ownsL,owns,viewL,view,sizesOk,onesOk,oneC,ap,-List.length_append,-List.map_append]
     refine head_of ?_
     simpa [junkAll,trunc,rowW] using ih
   ·have hcut := (index_one 10 s).2 hin
    rw [hcut] at c1
    simp only at c1
    have c2 := op_split1 (G := G) hS (l := s) (c := 32) (by omega)
    have hf : fin = none := by rw [hfin]; unfold rowsE; rw [splitBy_none 10 s hin]; simp [rowsL,hs0]
    subst hf
    simp [hsb,c1,c2,resRows,pureQ,Rs.bundle_rows,fail]
theorem rows_ok {G : Gam} (hC : G Fn.strings_Cut = some (.pure F_Cut)) (hS : G Fn.q67 = some (.pure F_Split)) (hK : G Fn.q18 = some (.pure F_ContainsS)) : ∀ args r,F_rows args = some r → wpM G Mc.bundle_rows (pureQ Rs.bundle_rows r) [] (frInit Ks.bundle_rows args) [] := by
 intro args r hF
 unfold F_rows at hF
 split at hF
 ·rename_i s
  split at hF
  ·rename_i hb
   injection hF with hF; subst hF
   have ih := rows_L0 G hC hS hK (rowsE s) s.length s [] (Nat.le_refl _) (by simpa using hb) (by cases rowsE s <;> simp)
   rw [wpM_go]
   simp [Mc.bundle_rows,Ks.bundle_rows,frInit]
   simpa using ih
  ·cases hF
 ·cases hF
end Go.Proofs.YtopiadllkglamaaGreatDoor
namespace Go.Proofs.YtopiadllkglamaaGreatDoor
open Go.RowKit Go.IntWalk
end Go.Proofs.YtopiadllkglamaaGreatDoor
