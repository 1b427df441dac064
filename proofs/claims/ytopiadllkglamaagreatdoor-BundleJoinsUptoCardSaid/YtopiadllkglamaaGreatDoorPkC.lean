/- The order of strings. The reference: trees. The reference: a tree is checked. Manifests: what is read of them,as the program and as the reference reads: plain laws. Small laws on cutting and splittin -/
import Derived.Test.YtopiadllkglamaaGreatDoorAm10
import Derived.Test.YtopiadllkglamaaGreatDoorRmI
import Derived.Test.YtopiadllkglamaaGreatDoorRmA
import Derived.Test.YtopiadllkglamaaGreatDoorRmD
import Derived.Lib.AtoiAll
import Derived.Test.YtopiadllkglamaaGreatDoorRmJ
import Derived.Test.YtopiadllkglamaaGreatDoorRecMc
namespace Go.Proofs.YtopiadllkglamaaGreatDoor
open Go.RowKit
theorem less_or (a b : Bs) : (Op.bytesLess a b || a == b) = !(Op.bytesLess b a) := by
 induction a generalizing b with
 | nil => cases b <;> rfl
 | cons x xs ih =>
  cases b with
  | nil => rfl
  | cons y ys =>
   have h := ih ys
   simp only [Op.bytesLess]
   by_cases hxy : x = y
   ·subst hxy
    simpa using h
   ·have hyx : ¬ y = x := fun e => hxy e.symm
    have hn : x.toNat ≠ y.toNat := fun e => hxy (UInt8.toNat_inj.1 e)
    have e1 : (x == y) = false := by simp [hxy]
    have e2 : (y == x) = false := by simp [hyx]
    have e3 : (x :: xs == y :: ys) = false := by simp [hxy]
    rw [e1,e2,e3]
    simp only [Bool.false_and,Bool.or_false]
    rw [Bool.eq_iff_iff]
    simp only [decide_eq_true_eq,Bool.not_eq_true',decide_eq_false_iff_not,UInt8.lt_iff_toNat_lt]
    omega
end Go.Proofs.YtopiadllkglamaaGreatDoor
namespace Go.Proofs.YtopiadllkglamaaGreatDoor
open Go.RowKit Go.IntWalk
theorem chk03_L1 (G : Gam) (hB : G Fn.q48 = some (.pure F_below)) (t : List Touch) (hb : t.length ≤ 64) (ht : ∀ f ∈ t,f.path.length < 4294967281) (i : Nat) (hi : i ≤ t.length) (f : Touch) (r : Int) {ks : List MK} : ∀ (rest : List Touch) (j : Nat),(t.take i).drop j = rest → j ≤ i →
  ((rest.any fun g => belowE f.path g.path) = true → r = 6) →
  ((rest.any fun g => belowE f.path g.path) = false → ∀ env j',exM G .normal ks (pureQ Rs.q44 (.int .i64 r)) env [(0,.sl (touchRows t)),(2,.int .i64 0),(3,.int .i64 i),(4,.ptr 0 0),(5,j'),(9,.sl (touchRows t)),(10,.int .i64 t.length),(11,.int .i64 i)] [.cells [.str f.path,.str f.dig]]) →
  headM G [] Mc.q44_L1 1 (.blk 2 :: ks) (pureQ Rs.q44 (.int .i64 r)) [(0,.sl (touchRows t)),(2,.int .i64 0),(3,.int .i64 i),(4,.ptr 0 0),(5,.int .i64 j),(9,.sl (touchRows t)),(10,.int .i64 t.length),(11,.int .i64 i)] [.cells [.str f.path,.str f.dig]]
 | [],j,hd,hj,h6,hk => by
  have hi2 := drop_nil hd
  rw [List.length_take] at hi2
  have e : j = i := by omega
  subst e
  have hl : ltB (j : Int) (j : Int) = false := ltB_not.2 (by omega)
  refine head_go (Mc.q44_L1.eq_1) ?_
  simp [vtrunc_len (n := 1) (h := [.cells [.str f.path,.str f.dig]]) rfl]
  exact hk rfl _ _
 | g :: rest,j,hd,hj,h6,hk => by
  obtain ⟨hlt,hx,hxd⟩ := drop_cons hd
  rw [List.length_take] at hlt
  have hx2 : t[j]? = some g := by rw [List.getElem?_take_of_lt (by omega)] at hx; exact hx
  have hl : ltB (j : Int) (i : Int) = true := ltB_iff.2 (by omega)
  have hw := wrap1 (i := j) (by unfold big; omega)
  have hrow := touchRows_get hx2
  have hgl := ht g (List.mem_of_getElem? hx2)
  have ir : ∀ st h,opV G st h (.iadr 2) (some [.sl (touchRows t),.int .i64 j]) = some (.fptr [.str g.path,.str g.dig] 0,h) := fun st h => by
   rw [opV_quiet rfl]; simp [evalPure,iadrAV,hrow]
  have cb : ∀ st h,opV G st h (.call Fn.q48) (some [.str f.path,.str g.path]) = some (.bool (belowE f.path g.path),h) := fun st h => op_call hB (us := [.str f.path,.str g.path]) rfl (by simp only [F_below]; rw [if_pos (by unfold big; omega)]) (.inl rfl)
  refine head_go (Mc.q44_L1.eq_1) ?_
  cases hbl : belowE f.path g.path with
  | true =>
   rw [hbl] at cb
   have hr := h6 (by simp [hbl])
   subst hr
   simp [hl,vtrunc_len (n := 1) (h := [.cells [.str f.path,.str f.dig]]) rfl,ir,cb,cut,mkVal,pureQ,Rs.q44]
  | false =>
   rw [hbl] at cb
   have ih := chk03_L1 G hB t hb ht i hi f r (ks := ks) rest (j + 1) hxd (by omega) (fun h => h6 (by simp [hbl,h])) (fun h => hk (by simp [hbl,h]))
   simp [hl,vtrunc_len (n := 1) (h := [.cells [.str f.path,.str f.dig]]) rfl,ir,cb,hw,cut,mkVal]
   simpa using ih
end Go.Proofs.YtopiadllkglamaaGreatDoor
namespace Go.Proofs.YtopiadllkglamaaGreatDoor
open Go.RowKit Go.IntWalk
theorem check03_L0 (G : Gam) (hP : G Fn.q57 = some (.pure F_Path)) (hB : G Fn.q48 = some (.pure F_below)) (t : List Touch) (hb : t.length ≤ 64)
  (ht : ∀ f ∈ t,f.path.length < 4294967281) (r : Int) : ∀ (rest : List Touch) (i : Nat) (x y z : AV) (H : Heap),t.drop i = rest → i ≤ t.length → r = treeFrom (t.take i) rest →
  headM G [3,4,5] Mc.q44_L0 0 [.blk 0,.seq (.seq (.reg [⟨none,some 2,true,.mv,[.c (.int .i64 0)]⟩]) .ret)] (pureQ Rs.q44 (.int .i64 r))
   [(0,.sl (touchRows t)),(2,.int .i64 0),(3,x),(4,y),(5,z),(9,.sl (touchRows t)),(10,.int .i64 t.length),(11,.int .i64 i)] H
 | [],i,x,y,z,H,hd,hi,hr => by
  have hi2 := drop_nil hd
  have hl : ltB (i : Int) (t.length : Int) = false := ltB_not.2 (by omega)
  simp only [treeFrom] at hr
  subst hr
  refine head_go (Mc.q44_L0.eq_1) ?_
  simp [hl,trunc,lowFr,low,lowH,pureQ,Rs.q44]
 | f :: rest,i,x,y,z,H,hd,hi,hr => by
  obtain ⟨hlt,hx,hxd⟩ := drop_cons hd
  have hl : ltB (i : Int) (t.length : Int) = true := ltB_iff.2 (by omega)
  have hmem : f ∈ t := List.mem_of_getElem? hx
  have hpl := ht f hmem
  have hrow := touchRows_get hx
  have hw : IntKind.i64.wrap ((i : Int) + 1) = ((i + 1 : Nat) : Int) := wrap1 (by unfold big; omega)
  have ir : ∀ st h,opV G st h (.iadr 2) (some [.sl (touchRows t),.int .i64 i]) = some (.fptr [.str f.path,.str f.dig] 0,h) := fun st h => by
   rw [opV_quiet rfl]; simp [evalPure,iadrAV,hrow]
  have cp : ∀ st h,opV G st h (.call Fn.q57) (some [.str f.path]) = some (.int .i64 (if pathOK f.path then 0 else 2),h) := fun st h => op_call hP (us := [.str f.path]) rfl (F1_use (A := eStr) (R := eInt) (x := f.path) (by simp [hpl])) (.inl rfl)
  rw [treeFrom] at hr
  refine head_go (Mc.q44_L0.eq_1) ?_
  cases hp : pathOK f.path with
  | false =>
   rw [if_pos hp] at hr
   subst hr
   rw [hp] at cp
   have q : eqB 2 0 = false := rfl
   simp [hl,trunc,lowFr,low,lowH,ir,cp,q,oneC,AV.cells,setAt,cut,mkVal,pureQ,Rs.q44]
  | true =>
   rw [if_neg (by simp [hp])] at hr
   rw [hp] at cp
   by_cases hd : 65536 < f.dig.length
   ·rw [if_pos hd] at hr
    subst hr
    have q : ltB 65536 (f.dig.length : Int) = true := ltB_iff.2 (by omega)
    simp [hl,trunc,lowFr,low,lowH,ir,cp,q,lenAV,oneC,AV.cells,setAt,cut,mkVal,pureQ,Rs.q44]
   ·rw [if_neg hd] at hr
    have q : ltB 65536 (f.dig.length : Int) = false := ltB_not.2 (by omega)
    have htk : t.take (i + 1) = t.take i ++ [f] := by rw [List.take_add_one,hx]; rfl
    have ih := fun X Y Z H' hr' => check03_L0 G hP hB t hb ht r rest (i + 1) X Y Z H' hxd (by omega) hr'
    rw [htk] at ih
    by_cases hi0 : i = 0
    ·subst hi0
     have g0 : ltB 0 0 = false := rfl
     have w1 : IntKind.i64.wrap 1 = 1 := rfl
     rw [if_neg (by simp),if_neg (by simp)] at hr
     have ih2 := fun X Y Z H' => ih X Y Z H' hr
     have inner := fun ks h => chk03_L1 G hB t hb ht 0 (by omega) f r (ks := ks) [] 0 (by simp) (by omega) (fun h => by simp at h) h
     simp at ir hl inner
     simp [hl,trunc,lowFr,low,lowH,ir,cp,q,lenAV,oneC,AV.cells,setAt,cut,mkVal]
     refine inner _ fun env j' => ?_
     simp [w1]
     simpa using ih2 _ _ _ _
    ·obtain ⟨g,hg⟩ : ∃ g,t[i - 1]? = some g := ⟨_,List.getElem?_eq_getElem (by omega)⟩
     have hlast := last_take (by omega) hg
     have g0 : ltB 0 (i : Int) = true := ltB_iff.2 (by omega)
     have ws : IntKind.i64.wrap ((i : Int) - 1) = (i : Int) - 1 := i64_in _ ⟨by omega,by omega⟩
     have hgr := touchRows_get hg
     have ir2 : ∀ st h,opV G st h (.iadr 2) (some [.sl (touchRows t),.int .i64 ((i : Int) - 1)]) = some (.fptr [.str g.path,.str g.dig] 0,h) := fun st h => by
      have e : ((i : Int) - 1) = ((i - 1 : Nat) : Int) := by omega
      rw [e,opV_quiet rfl]; simp [evalPure,iadrAV,hgr]
     have bg : binAV .leq (.str f.path) (.str g.path) = some (.bool (!(Op.bytesLess g.path f.path))) := by simp only [binAV,strBin,less_or]
     rw [hlast] at hr
     cases hbl : Op.bytesLess g.path f.path with
     | false =>
      rw [hbl] at bg
      simp only [Option.map_some,hbl,if_true] at hr
      subst hr
      simp [hl,trunc,lowFr,low,lowH,ir,ir2,cp,q,g0,ws,bg,lenAV,oneC,AV.cells,setAt,cut,mkVal,pureQ,Rs.q44]
     | true =>
      rw [hbl] at bg
      simp only [Option.map_some,hbl,Option.some.injEq,Bool.true_eq_false,if_false] at hr
      have inner := fun ks h6 h => chk03_L1 G hB t hb ht i hi f r (ks := ks) (t.take i) 0 rfl (by omega) h6 h
      simp only [Int.natCast_zero] at inner
      simp [hl,trunc,lowFr,low,lowH,ir,ir2,cp,q,g0,ws,bg,lenAV,oneC,AV.cells,setAt,cut,mkVal]
      refine inner _ (fun h6 => by rw [hr,if_pos h6]) fun h env j' => ?_
      rw [h] at hr
      simp only [Bool.false_eq_true,if_false] at hr
      have ih2 := fun X Y Z H' => ih X Y Z H' hr
      simp [hw]
      simpa using ih2 _ _ _ _
theorem treeCheck03_ok {G : Gam} (hP : G Fn.q57 = some (.pure F_Path)) (hB : G Fn.q48 = some (.pure F_below)) :
  ∀ args r,F_treeCheck args = some r → wpM G Mc.q44 (pureQ Rs.q44 r) [] (frInit Ks.q44 args) [] := by
 intro args r hF
 unfold F_treeCheck at hF
 split at hF
 ·rename_i rows
  split at hF
  ·rename_i t hdec
   split at hF
   ·rename_i hall
    injection hF with hF; subst hF
    have hrows : rows = touchRows t := decAll_of (fun r x => decTouch_of) hdec
    subst hrows
    have ht : ∀ f ∈ t,f.path.length < 4294967281 := by simpa using hall
    rw [wpM_go]
    by_cases hb : 64 < t.length
    ·have q : ltB 64 (t.length : Int) = true := ltB_iff.2 (by omega)
     have e : treeE t = 10 := by unfold treeE; rw [if_pos hb]
     rw [e]
     simp [Mc.q44,frInit,Ks.q44,lenAV,q,pureQ,Rs.q44]
    ·have q : ltB 64 (t.length : Int) = false := ltB_not.2 (by omega)
     have e : treeE t = treeFrom [] t := by unfold treeE; rw [if_neg hb]
     rw [e]
     have ih := check03_L0 G hP hB t (by omega) ht _ t 0 .junk .junk .junk [] rfl (by omega) rfl
     simp [Mc.q44,frInit,Ks.q44,lenAV,q]
     simpa using ih
   ·cases hF
  ·cases hF
 ·cases hF
end Go.Proofs.YtopiadllkglamaaGreatDoor
namespace Go.Proofs.YtopiadllkglamaaGreatDoor
open Go.RowKit Go.IntWalk
def rowsL : List Bs → Option (List (List Bs))
 | [] => none
 | [l] => if l = [] then some [] else none
 | l :: ls => if (splitBy 32 l).contains [] then none else (rowsL ls).map (splitBy 32 l :: ·)
def rowsE (s : Bs) : Option (List (List Bs)) := rowsL (splitBy 10 s)
def wordsL : List Bs → Option (List (List Bs) × Bool)
 | [] => none
 | [l] => some ([],decide (l = []))
 | l :: ls => if (splitBy 32 l).contains [] then none else (wordsL ls).map fun p => (splitBy 32 l :: p.1,p.2)
theorem words_rows : ∀ ls : List Bs,rowsL ls = (match wordsL ls with
 | some (l,true) => some l
 | _ => none)
 | [] => rfl
 | [l] => by by_cases h : l = [] <;> simp [rowsL,wordsL,h]
 | l :: m :: ls => by
  have ih := words_rows (m :: ls)
  simp only [rowsL,wordsL]
  split
  ·rfl
  ·rw [ih]
   cases wordsL (m :: ls) with
   | none => rfl
   | some p => obtain ⟨a,b⟩ := p; cases b <;> rfl
def wPaper : Bs := [112,97,112,101,114]
def wSource : Bs := [115,111,117,114,99,101]
structure Stand where
 np : Nat
 ns : Nat
 lp : Bs
 ls : Bs
end Go.Proofs.YtopiadllkglamaaGreatDoor
namespace Go.Proofs.YtopiadllkglamaaGreatDoor
open Go.RowKit Go.IntWalk
theorem index_one (c : UInt8) : ∀ s : Bs,(c ∈ s → ∃ a b,s = a ++ c :: b ∧ c ∉ a ∧ Lib.cut s [c] = (a,b,true)) ∧ (c ∉ s → Lib.cut s [c] = (s,[],false)) := by
 intro s
 refine ⟨fun h => ?_,fun h => ?_⟩
 ·rcases Lib.index_spec s [c] with ⟨h1,h2⟩ | ⟨i,h1,h2,h3,h4⟩
  ·obtain ⟨j,hj,hjc⟩ := List.mem_iff_getElem.1 h
   have := h2 j (by omega)
   simp only [Lib.occAt,List.drop_eq_getElem_cons hj,hjc] at this
   simp at this
  ·have hr := Lib.index_room s [c] (by omega)
   rw [h1] at hr
   have hi : i < s.length := by simp at hr; omega
   have hd := List.drop_eq_getElem_cons hi
   have hc : s[i] = c := by
    simp only [Lib.occAt,hd] at h3
    have h5 : c = s[i] := by simpa [List.isPrefixOf] using h3
    exact h5.symm
   refine ⟨s.take i,s.drop (i + 1),?_,?_,?_⟩
   ·conv => lhs; rw [← List.take_append_drop i s,hd,hc]
   ·intro hm
    obtain ⟨j,hj,hjc⟩ := List.mem_iff_getElem.1 hm
    have hj2 : j < i := by simp at hj; omega
    have := h4 j hj2
    simp only [List.getElem_take] at hjc
    simp only [Lib.occAt,List.drop_eq_getElem_cons (show j < s.length by omega),hjc] at this
    simp at this
   ·unfold Lib.cut
    rw [if_pos (by rw [h1]; omega),h1]; simp
 ·rcases Lib.index_spec s [c] with ⟨h1,h2⟩ | ⟨i,h1,h2,h3,h4⟩
  ·unfold Lib.cut
   rw [if_neg (by rw [h1]; omega)]
  ·exfalso
   have hr := Lib.index_room s [c] (by omega)
   rw [h1] at hr
   have hi : i < s.length := by simp at hr; omega
   have hd := List.drop_eq_getElem_cons hi
   simp only [Lib.occAt,hd] at h3
   have hc : c = s[i] := by simpa [List.isPrefixOf] using h3
   exact h (by rw [hc]; exact List.getElem_mem hi)
theorem splitBy_mid (c : UInt8) : ∀ (a b : Bs),c ∉ a → splitBy c (a ++ c :: b) = a :: splitBy c b
 | [],b,_ => by simp [splitBy]
 | x :: a,b,h => by
  have hx : x ≠ c := fun e => h (by simp [e])
  have := splitBy_mid c a b (fun e => h (by simp [e]))
  simp [splitBy,hx,this]
theorem splitBy_none (c : UInt8) : ∀ (a : Bs),c ∉ a → splitBy c a = [a]
 | [],_ => by simp [splitBy]
 | x :: a,h => by
  have hx : x ≠ c := fun e => h (by simp [e])
  have := splitBy_none c a (fun e => h (by simp [e]))
  simp [splitBy,hx,this]
theorem splitBy_mem (c : UInt8) : ∀ (s : Bs) (w : Bs),w ∈ splitBy c s → w.length ≤ s.length
 | [],w,h => by simp [splitBy] at h; subst h; simp
 | b :: r,w,h => by
  have ih := splitBy_mem c r
  unfold splitBy at h
  split at h
  ·rcases List.mem_cons.1 h with rfl | h
   ·simp
   ·have := ih w h; simp; omega
  ·cases hs : splitBy c r with
   | nil => exact absurd hs (splitBy_ne c r)
   | cons x xs =>
    simp only [hs] at h
    rcases List.mem_cons.1 h with rfl | h
    ·have := ih x (by rw [hs]; simp); simp; omega
    ·have := ih w (by rw [hs]; simp [h]); simp; omega
theorem idx_nonneg (x : Bs) : ∀ (xs : List Bs) (i : Nat),(!ltB (idxFrom x i xs) 0) = xs.contains x
 | [],i => by simp [idxFrom,ltB]
 | y :: r,i => by
  simp only [idxFrom,List.contains_cons]
  by_cases h : x = y
  ·subst h; simp [ltB]
  ·have := idx_nonneg x r (i + 1)
   simp [h,this]
end Go.Proofs.YtopiadllkglamaaGreatDoor
namespace Go.Proofs.YtopiadllkglamaaGreatDoor
open Go.RowKit Go.IntWalk
def rowW (w : List Bs) : List AV := [.sl (w.map rStr.enc)]
def resRows (o : Option (List (List Bs))) : AV := match o with
 | some l => .tup [.sl (l.map rowW),.bool true]
 | none => .tup [.sl [],.bool false]
def F_rows : List AV → Option AV
 | [.str s] => if s.length < 4294967281 then some (resRows (rowsE s)) else none
 | _ => none
theorem rowsE_mid {l rest : Bs} (hl : (10 : UInt8) ∉ l) : rowsE (l ++ 10 :: rest) = if (splitBy 32 l).contains [] then none else (rowsE rest).map (splitBy 32 l :: ·) := by
 unfold rowsE
 rw [splitBy_mid 10 l rest hl]
 obtain ⟨x,xs,e⟩ : ∃ x xs,splitBy 10 rest = x :: xs := by
  cases h : splitBy 10 rest with
  | nil => exact absurd h (splitBy_ne 10 rest)
  | cons x xs => exact ⟨x,xs,rfl⟩
 rw [e]; rfl
section
variable {G : Gam} {h : Heap}
theorem op_split1 (hS : G Fn.q69 = some (.pure F_Split)) {l : Bs} {c : UInt8} (hl : l.length < 4294967281) : ∀ st h,opV G st h (.call Fn.q69) (some [.str l,.str [c]]) = some (.sl ((splitBy c l).map rStr.enc),h) := fun st h =>
 op_call hS rfl (F2_use (A := eStr) (B := eStr) (R := eSl rStr) (x := l) (y := [c]) (by simp only [hl,if_true])) (.inr rfl)
theorem op_has (hK : G Fn.q18 = some (.pure F_ContainsS)) {ws : List Bs} {x : Bs} (hl : ws.length ≤ big) : ∀ st h,opV G st h (.call Fn.q18) (some [.sl (ws.map rStr.enc),.str x]) = some (.bool (ws.contains x),h) := fun st h =>
 op_call hK rfl (by
  have hd := decRows_de rStr ws
  have e : decStrs (ws.map rStr.enc) = some ws := by
   clear hd hl
   induction ws with
   | nil => rfl
   | cons w r ih => simp [decStrs] at ih ⊢; simpa using ih
  simp only [F_ContainsS,e,hl,if_true,idx_nonneg]) (.inl rfl)
end
theorem rows_L0 (G : Gam) (hC : G Fn.strings_Cut = some (.pure F_Cut)) (hS : G Fn.q69 = some (.pure F_Split)) (hK : G Fn.q18 = some (.pure F_ContainsS)) (fin : Option (List (List Bs))) :
  ∀ (m : Nat) (s : Bs) (os : List (List Bs)),s.length ≤ m → s.length + os.length < 4294967281 → fin = (rowsE s).map (os ++ ·) →
  headM G [5,6,7,8] Mc.bundle_rows_L0 2 [.blk 0,.seq (.seq (.reg [⟨none,some 30,false,.mv,[.t 4]⟩,⟨none,some 2,true,.mv,[.t 30]⟩,⟨none,some 3,true,.mv,[.c (.bool true)]⟩]) .ret)] (pureQ Rs.bundle_rows (resRows fin))
   [(0,.str s),(2,.own 0 0 0),(3,.bool false),(4,.own 1 os.length os.length),(5,.junk),(6,.junk),(7,.junk),(8,.junk)] [.arr 1 0 [] true,.arr 1 os.length (os.map rowW) true]
 | m,s,os,hm,hsz,hfin => by
  refine head_go (Mc.bundle_rows_L0.eq_1) ?_
  have htr : ∀ fr,lowFr 2 fr = true → trunc 2 fr [Blk.arr 1 0 [] true,.arr 1 os.length (os.map rowW) true] = [.arr 1 0 [] true,.arr 1 os.length (os.map rowW) true] := fun fr hf => by
   unfold trunc; rw [hf]; rfl
  rw [htr _ rfl]
  have hro : rowsOf [Blk.arr 1 0 [] true,.arr 1 os.length (os.map rowW) true] (.own 1 os.length os.length) = some (os.map rowW) := rows_own (l := 1) rfl (by simp)
  by_cases hs0 : s = []
  ·subst hs0
   have hf : fin = some os := by rw [hfin]; simp [rowsE,splitBy,rowsL]
   subst hf
   simp [resRows,pureQ,Rs.bundle_rows,hro]
  ·have hsb : (s == []) = false := by simpa using hs0
   have c1 : ∀ st h,opV G st h (.call Fn.strings_Cut) (some [.str s,.str [10]]) = some (.tup [.str (Lib.cut s [10]).1,.str (Lib.cut s [10]).2.1,.bool (Lib.cut s [10]).2.2],h) := fun st h => op_call hC (us := [.str s,.str [10]]) rfl (by
    simp only [F_Cut]; rw [if_pos (by omega)]) (.inl rfl)
   have fail : ∀ (a b : Blk),rowsOf [a,b,.arr 1 0 [] true] (.own 2 0 0) = some [] := fun a b => rfl
   by_cases hin : (10 : UInt8) ∈ s
   ·obtain ⟨l,rest,rfl,hl,hcut⟩ := (index_one 10 s).1 hin
    rw [hcut] at c1
    simp only at c1
    simp only [List.length_append,List.length_cons] at hm hsz
    have c2 := op_split1 (G := G) hS (l := l) (c := 32) (by omega)
    have c3 := op_has (G := G) hK (ws := splitBy 32 l) (x := []) (by have := splitBy_len 32 l; unfold big; omega)
    rw [rowsE_mid hl] at hfin
    cases hc : (splitBy 32 l).contains ([] : Bs) with
    | true =>
     have hf : fin = none := by rw [hfin,hc]; rfl
     subst hf
     rw [hc] at c3
     simp [hsb,c1,c2,c3,resRows,pureQ,Rs.bundle_rows,fail]
    | false =>
     rw [hc] at c3 hfin
     obtain ⟨m,rfl⟩ : ∃ m',m = m' + 1 := ⟨m - 1,by omega⟩
     have ap := op_app1 (G := G) (s := false) (h := [.arr 1 0 [] true,.arr 1 os.length (os.map rowW) true]) (e := rowW) (n := 1) (b := 24) (l := 1) (os := os) (x := splitBy 32 l) rfl rfl (by omega) (by unfold big; omega)
     simp only [rowW] at ap
     have ih := rows_L0 G hC hS hK fin m rest (os ++ [splitBy 32 l]) (by omega) (by simp; omega) (by
      rw [hfin]
      cases rowsE rest with
      | none => rfl
      | some r => simp)
     simp [hsb,c1,c2,c3,ownsL,owns,viewL,view,sizesOk,onesOk,oneC,ap,-List.length_append,-List.map_append]
     refine head_of ?_
     simpa [junkAll,trunc,rowW] using ih
   ·have hcut := (index_one 10 s).2 hin
    rw [hcut] at c1
    simp only at c1
    have c2 := op_split1 (G := G) hS (l := s) (c := 32) (by omega)
    have hf : fin = none := by rw [hfin]; unfold rowsE; rw [splitBy_none 10 s hin]; simp [rowsL,hs0]
    subst hf
    simp [hsb,c1,c2,resRows,pureQ,Rs.bundle_rows,fail]
theorem rows_ok {G : Gam} (hC : G Fn.strings_Cut = some (.pure F_Cut)) (hS : G Fn.q69 = some (.pure F_Split)) (hK : G Fn.q18 = some (.pure F_ContainsS)) : ∀ args r,F_rows args = some r → wpM G Mc.bundle_rows (pureQ Rs.bundle_rows r) [] (frInit Ks.bundle_rows args) [] := by
 intro args r hF
 unfold F_rows at hF
 split at hF
 ·rename_i s
  split at hF
  ·rename_i hb
   injection hF with hF; subst hF
   have ih := rows_L0 G hC hS hK (rowsE s) s.length s [] (Nat.le_refl _) (by simpa using hb) (by cases rowsE s <;> simp)
   rw [wpM_go]
   simp [Mc.bundle_rows,Ks.bundle_rows,frInit]
   simpa using ih
  ·cases hF
 ·cases hF
end Go.Proofs.YtopiadllkglamaaGreatDoor
namespace Go.Proofs.YtopiadllkglamaaGreatDoor
open Go.RowKit Go.IntWalk
theorem split46_L0 (G : Gam) (s : Bs) (c : UInt8) (hs : s.length ≤ 1000000) : ∀ (rest : Bs) (i f : Nat) (os : List Bs),s.drop i = rest → i ≤ s.length → f ≤ i → os.length ≤ i → splitBy c s = os ++ preP ((s.take i).drop f) (splitBy c rest) →
  headM G [] Mc.q49_L0 2 [.blk 0,.seq (.seq (.reg [⟨none,some 34,false,.mv,[.t 5]⟩,⟨none,some 4,true,.mv,[.t 34]⟩]) .ret)] (pureQ Rs.q49 (.sl ((splitBy c s).map sRow)))
   [(0,.str s),(1,.int .u8 c.toNat),(4,.own 0 0 0),(5,.own 1 os.length os.length),(6,.int .i64 f),(7,.int .i64 i)] (SpH os)
 | [],i,f,os,hd,hi,hf,ho,hr => by
  have hi2 := drop_nil hd
  have e : i = s.length := by omega
  subst e
  have hl : ltB (s.length : Int) (s.length : Int) = false := ltB_not.2 (by omega)
  have hl2 : ltB (s.length : Int) ((s.length : Int) + 1) = true := ltB_iff.2 (by omega)
  have hw : IntKind.i64.wrap ((s.length : Int) + 1) = ((s.length : Nat) : Int) + 1 := by have := wrap1 (i := s.length) (by unfold big; omega); simpa using this
  have sl : ∀ st h,opV G st h (.slc none true true false) (some [.str s,.int .i64 f,.int .i64 s.length]) = some (.str ((s.take s.length).drop f),h) := fun st h => slc_both rfl rfl hf hi
  rw [List.take_length] at sl hr
  have ap := sp_app (G := G) os (s.drop f) (by unfold big; omega)
  have hr2 : splitBy c s = os ++ [s.drop f] := by simpa [splitBy,preP] using hr
  rw [hr2]
  have vw : rowsOf (SpH (os ++ [s.drop f])) (.own 1 (os ++ [s.drop f]).length (os ++ [s.drop f]).length) = some ((os ++ [s.drop f]).map sRow) :=
   rows_own (h := SpH (os ++ [s.drop f])) (l := 1) (sz := 1) (rows := (os ++ [s.drop f]).map sRow) (wr := true) rfl (by simp)
  refine head_go (Mc.q49_L0.eq_1) ?_
  rw [vtrunc_len (n := 2) rfl]
  simp [lenAV,sl,ownsL,owns,viewL,view,sizesOk,onesOk,oneC,AV.cells,ap,hw,-List.length_append,-List.map_append]
  refine head_of ?_
  refine head_go (Mc.q49_L0.eq_1) ?_
  simp only [vtrunc_len (n := 2) (show (SpH _).length = 2 from rfl)]
  simp [lenAV,hl2,vw,pureQ,Rs.q49,-List.length_append,-List.map_append]
 | b :: rest,i,f,os,hd,hi,hf,ho,hr => by
  obtain ⟨hlt,hx,hxd⟩ := drop_cons hd
  have hl : ltB (s.length : Int) (i : Int) = false := ltB_not.2 (by omega)
  have q0 : eqB (i : Int) (s.length : Int) = false := eqB_not.2 (by omega)
  have hw : IntKind.i64.wrap ((i : Int) + 1) = ((i + 1 : Nat) : Int) := wrap1 (by unfold big; omega)
  have is : ∀ st h,opV G st h .istr (some [.str s,.int .i64 i]) = some (.int .u8 b.toNat,h) := fun st h => op_istr hx
  refine head_go (Mc.q49_L0.eq_1) ?_
  rw [vtrunc_len (n := 2) rfl]
  by_cases hbc : b = c
  ·subst hbc
   rw [split_hit] at hr
   have sl : ∀ st h,opV G st h (.slc none true true false) (some [.str s,.int .i64 f,.int .i64 i]) = some (.str ((s.take i).drop f),h) := fun st h => slc_both rfl rfl hf hi
   have ap := sp_app (G := G) os ((s.take i).drop f) (by unfold big; omega)
   have hr2 : splitBy b s = (os ++ [(s.take i).drop f]) ++ preP ((s.take (i + 1)).drop (i + 1)) (splitBy b rest) := by
    have e : (s.take (i + 1)).drop (i + 1) = [] := by rw [List.drop_eq_nil_iff,List.length_take]; omega
    rw [e,preP_nil _ (splitBy_ne b rest),hr]; simp
   have ih := split46_L0 G s b hs rest (i + 1) (i + 1) (os ++ [(s.take i).drop f]) hxd (by omega) (by omega) (by simp; omega) hr2
   simp [lenAV,hl,q0,is,sl,ownsL,owns,viewL,view,sizesOk,onesOk,oneC,AV.cells,ap,hw,-List.length_append]
   refine head_of ?_
   simpa [vtrunc_len (n := 2) (show (SpH _).length = 2 from rfl)] using ih
  ·have q : eqB (b.toNat : Int) (c.toNat : Int) = false := eqB_not.2 fun e => hbc (UInt8.toNat_inj.1 (by omega))
   rw [split_step hbc] at hr
   have hr2 : splitBy c s = os ++ preP ((s.take (i + 1)).drop f) (splitBy c rest) := by rw [take_drop_snoc hf hx]; exact hr
   have ih := split46_L0 G s c hs rest (i + 1) f os hxd (by omega) (by omega) (by omega) hr2
   simp [lenAV,hl,q0,is,q,hw]
   refine head_of ?_
   simpa [vtrunc_len (n := 2) (show (SpH _).length = 2 from rfl)] using ih
theorem split46_ok {G : Gam} : ∀ args r,F_Split03 args = some r → wpM G Mc.q49 (pureQ Rs.q49 r) [] (frInit Ks.q49 args) [] := by
 intro args r hF
 unfold F_Split03 at hF
 split at hF
 ·rename_i s e
  split at hF
  ·rename_i hc
   injection hF with hF; subst hF
   obtain ⟨h1,h2,h3⟩ := hc
   obtain ⟨E,hE⟩ : ∃ E : UInt8,e = (E.toNat : Int) := ⟨UInt8.ofNat e.toNat,by rw [UInt8.toNat_ofNat']; omega⟩
   subst hE
   have eE : UInt8.ofNat ((E.toNat : Int)).toNat = E := by simp
   rw [eE,wpM_go]
   have ih := split46_L0 G s E h1 s 0 0 [] rfl (by omega) (by omega) (by simp) (by simp [preP_nil _ (splitBy_ne E s)])
   simpa [Mc.q49,frInit,Ks.q49,SpH] using ih
  ·cases hF
 ·cases hF
theorem has46_L0 (G : Gam) (xs : List Bs) (s : Bs) (hb : xs.length ≤ big) : ∀ (rest : List Bs) (i : Nat),xs.drop i = rest → i + rest.length = xs.length →
  headM G [] Mc.q63_L0 0 [.blk 0,.seq (.seq (.reg [⟨none,some 4,true,.mv,[.c (.bool false)]⟩]) .ret)] (pureQ Rs.q63 (.bool (rest.contains s)))
  [(0,.sl (encStrs xs)),(1,.str s),(4,.bool false),(5,.int .i64 i)] []
 | [],i,hd,hn => by
  refine head_go (Mc.q63_L0.eq_1) ?_
  simp at hn
  have hl : ltB (i : Int) (xs.length : Int) = false := ltB_not.2 (by omega)
  have hle : (encStrs xs).length = xs.length := by simp [encStrs]
  simp [junkAll,trunc,lowFr,low,lowH,hl,hle,pureQ,Rs.q63,resAV,resL,resOne,view]
 | x :: rest,i,hd,hn => by
  refine head_go (Mc.q63_L0.eq_1) ?_
  simp at hn
  have hl : ltB (i : Int) (xs.length : Int) = true := ltB_iff.2 (by omega)
  have hle : (encStrs xs).length = xs.length := by simp [encStrs]
  have hx : xs[i]? = some x := by have := congrArg (·[0]?) hd; simpa using this
  have hxd : xs.drop (i + 1) = rest := by rw [← List.drop_drop,hd]; rfl
  have hw : IntKind.i64.wrap ((i : Int) + 1) = ((i + 1 : Nat) : Int) := wrap1 (by unfold big at hb ⊢; omega)
  by_cases he : x = s
  ·subst he
   have hbe : (x == x) = true := by simp
   simp [junkAll,trunc,lowFr,low,lowH,hl,hle,iadr_sl (encStrs_get hx),cut,strBin,pureQ,Rs.q63,resAV,resL,resOne,view]
  ·have hbe : (x == s) = false := by simp [he]
   have hbe2 : (s == x) = false := by simp [Ne.symm he]
   have ih := has46_L0 G xs s hb rest (i + 1) hxd (by omega)
   simp [junkAll,trunc,lowFr,low,lowH,hl,hle,iadr_sl (encStrs_get hx),cut,strBin,hbe,hw]
   refine head_of ?_
   have hne : ¬ s = x := fun e => he e.symm
   simpa [junkAll,trunc,lowFr,low,lowH,lowB,hne] using ih
theorem has46_ok (G : Gam) : ∀ args r,F_ContainsS args = some r → wpM G Mc.q63 (pureQ Rs.q63 r) [] (frInit Ks.q63 args) [] := by
 intro args r h
 unfold F_ContainsS at h
 split at h
 ·rename_i a s
  split at h
  ·rename_i xs h1
   have := decStrs_of h1; subst this
   split at h
   ·rename_i hb
    injection h with h; subst h
    rw [idx_nonneg,wpM_go]
    have ih := has46_L0 G xs s hb xs 0 rfl (by simp)
    simpa [Mc.q63,frInit,Ks.q63] using ih
   ·cases h
  ·cases h
 ·cases h
def resWords (o : Option (List (List Bs) × Bool)) : AV := match o with
 | some p => .tup [.sl (p.1.map rowW),.bool p.2]
 | none => .tup [.sl [],.bool false]
def wordsE (s : Bs) : Option (List (List Bs) × Bool) := wordsL (splitBy 10 s)
def F_words : List AV → Option AV
 | [.str s] => if s.length ≤ 1000000 then some (resWords (wordsE s)) else none
 | _ => none
theorem words_L0 {s : Bs} (G : Gam) (hS : G Fn.q49 = some (.pure F_Split03)) (hK : G Fn.q63 = some (.pure F_ContainsS)) (ls : List Bs) (hls : ls.length ≤ 1000001) (hlen : ∀ l ∈ ls,l.length ≤ 1000000) (fin : Option (List (List Bs) × Bool)) :
  ∀ (rest : List Bs) (i : Nat) (os : List (List Bs)),rest ≠ [] → ls.drop i = rest → os.length = i → fin = (wordsL rest).map (fun p => (os ++ p.1,p.2)) →
  headM G [7] Mc.q45_L0 2 [.blk 0,.seq (.seq (.rgd [⟨none,some 28,false,.mv,[.t 5]⟩,⟨none,some 29,false,.mv,[.t 4]⟩,⟨none,some 30,false,.mv,[.t 4]⟩,⟨none,some 31,false,.len 1,[.t 30]⟩,⟨none,some 32,false,.bin .sub,[.t 31,.c (.int .i64 1)]⟩,
   ⟨none,some 33,false,.iadr 1,[.t 29,.t 32]⟩,⟨none,some 34,false,.ld 1 false,[.t 33]⟩,⟨none,some 35,false,.bin .eql,[.t 34,.c (.str [])]⟩,⟨none,some 2,true,.mv,[.t 28]⟩,⟨none,some 3,true,.mv,[.t 35]⟩]) .ret)] (pureQ Rs.q45 (resWords fin))
   [(0,.str s),(2,.own 0 0 0),(3,.bool false),(4,.sl (ls.map sRow)),(5,.own 1 os.length os.length),(6,.int .i64 i),(7,.junk)] [.arr 1 0 [] true,.arr 1 os.length (os.map rowW) true]
 | [],i,os,hne,hd,ho,hfin => absurd rfl hne
 | [z],i,os,hne,hd,ho,hfin => by
  obtain ⟨hlt,hx,hxd⟩ := drop_cons hd
  have hi : i + 1 = ls.length := by have := congrArg List.length hd; simp at this; omega
  have hw : IntKind.i64.wrap ((i : Int) + 1) = ((i : Int) + 1) := by have := wrap1 (i := i) (by unfold big; omega); simpa using this
  have hl : ltB ((i : Int) + 1) (ls.length : Int) = false := ltB_not.2 (by omega)
  have hs1 : IntKind.i64.wrap ((ls.length : Int) - 1) = (i : Int) := by rw [i64_in _ (by omega)]; omega
  have hro : rowsOf [Blk.arr 1 0 [] true,.arr 1 os.length (os.map rowW) true] (.own 1 os.length os.length) = some (os.map rowW) := rows_own (l := 1) rfl (by simp)
  have hia : ∀ h,iadrAV 1 h (.sl (ls.map sRow)) (.int .i64 i) = some (.fptr [.str z] 0) := fun h => iadr_sl (row := [.str z]) (by simp [hx,sRow]) rfl
  have hf : fin = some (os,decide (z = [])) := by rw [hfin]; simp [wordsL]
  subst hf
  refine head_go (Mc.q45_L0.eq_1) ?_
  have htr : ∀ fr,lowFr 2 fr = true → trunc 2 fr [Blk.arr 1 0 [] true,.arr 1 os.length (os.map rowW) true] = [.arr 1 0 [] true,.arr 1 os.length (os.map rowW) true] := fun fr hf => by
   unfold trunc; rw [hf]; rfl
  rw [htr _ rfl]
  simp [hw,hl,hs1,hia,resWords,pureQ,Rs.q45,hro]
  by_cases hz : z = [] <;> simp [hz]
 | l :: l2 :: rest,i,os,hne,hd,ho,hfin => by
  obtain ⟨hlt,hx,hxd⟩ := drop_cons hd
  have hlt2 : i + 1 < ls.length := by have := congrArg List.length hd; simp at this; omega
  have hw : IntKind.i64.wrap ((i : Int) + 1) = ((i : Int) + 1) := by have := wrap1 (i := i) (by unfold big; omega); simpa using this
  have hlb : ltB ((i : Int) + 1) (ls.length : Int) = true := ltB_iff.2 (by omega)
  have hl := hlen l (List.mem_of_getElem? hx)
  have hia : ∀ h,iadrAV 1 h (.sl (ls.map sRow)) (.int .i64 i) = some (.fptr [.str l] 0) := fun h => iadr_sl (row := [.str l]) (by simp [hx,sRow]) rfl
  have c1 : ∀ st h,opV G st h (.call Fn.q49) (some [.str l,.int .u8 32]) = some (.sl ((splitBy 32 l).map sRow),h) := fun st h => op_call hS rfl (by simp only [F_Split03]; rw [if_pos ⟨hl,by omega,by omega⟩]; rfl) (.inr rfl)
  have c2 : ∀ st h,opV G st h (.call Fn.q63) (some [.sl ((splitBy 32 l).map sRow),.str []]) = some (.bool ((splitBy 32 l).contains []),h) := by
   have := op_has (G := G) (h := []) (ws := splitBy 32 l) (x := [])
   intro st h
   refine op_call hK rfl ?_ (.inl rfl)
   have e : decStrs ((splitBy 32 l).map sRow) = some (splitBy 32 l) := by
    generalize splitBy 32 l = ws
    induction ws with
    | nil => rfl
    | cons w r ih => simp [decStrs,sRow] at ih ⊢; simpa using ih
   have hbl : (splitBy 32 l).length ≤ big := by have := splitBy_len 32 l; unfold big; omega
   simp only [F_ContainsS,e,hbl,if_true,idx_nonneg]
  have htr : ∀ fr,lowFr 2 fr = true → trunc 2 fr [Blk.arr 1 0 [] true,.arr 1 os.length (os.map rowW) true] = [.arr 1 0 [] true,.arr 1 os.length (os.map rowW) true] := fun fr hf => by
   unfold trunc; rw [hf]; rfl
  have fail : ∀ (a b : Blk),rowsOf [a,b,.arr 1 0 [] true] (.own 2 0 0) = some [] := fun a b => rfl
  refine head_go (Mc.q45_L0.eq_1) ?_
  rw [htr _ rfl]
  simp only [wordsL] at hfin
  cases hc : (splitBy 32 l).contains ([] : Bs) with
  | true =>
   rw [hc] at c2 hfin
   have hf : fin = none := by rw [hfin]; rfl
   subst hf
   simp [hw,hlb,hia,c1,c2,resWords,pureQ,Rs.q45,fail]
  | false =>
   rw [hc] at c2 hfin
   have ap := op_app1 (G := G) (s := false) (h := [.arr 1 0 [] true,.arr 1 os.length (os.map rowW) true]) (e := rowW) (n := 1) (b := 24) (l := 1) (os := os) (x := splitBy 32 l) rfl rfl (by omega) (by unfold big; omega)
   have er : ∀ ws : List Bs,ws.map sRow = ws.map rStr.enc := fun _ => rfl
   simp only [rowW,← er] at ap
   have ih := words_L0 (s := s) G hS hK ls hls hlen fin (l2 :: rest) (i + 1) (os ++ [splitBy 32 l]) (by simp) hxd (by simp [ho]) (by
    rw [hfin]
    cases wordsL (l2 :: rest) with
    | none => rfl
    | some r => simp)
   simp [hw,hlb,hia,c1,c2,ownsL,owns,viewL,view,sizesOk,onesOk,oneC,ap,-List.length_append,-List.map_append]
   refine head_of ?_
   simpa [junkAll,trunc,rowW,← er] using ih
theorem words_ok {G : Gam} (hS : G Fn.q49 = some (.pure F_Split03)) (hK : G Fn.q63 = some (.pure F_ContainsS)) : ∀ args r,F_words args = some r → wpM G Mc.q45 (pureQ Rs.q45 r) [] (frInit Ks.q45 args) [] := by
 intro args r hF
 unfold F_words at hF
 split at hF
 ·rename_i s
  split at hF
  ·rename_i hb
   injection hF with hF; subst hF
   have c1 : ∀ st h,opV G st h (.call Fn.q49) (some [.str s,.int .u8 10]) = some (.sl ((splitBy 10 s).map sRow),h) := fun st h => op_call hS rfl (by simp only [F_Split03]; rw [if_pos ⟨hb,by omega,by omega⟩]; rfl) (.inr rfl)
   have ih := words_L0 (s := s) G hS hK (splitBy 10 s) (by have := splitBy_len 10 s; omega) (fun l hl => by have := splitBy_mem 10 s l hl; omega) (wordsE s) (splitBy 10 s) 0 [] (splitBy_ne 10 s) rfl rfl (by unfold wordsE; cases wordsL (splitBy 10 s) <;> simp)
   rw [wpM_go]
   simp [Mc.q45,Ks.q45,frInit,c1]
   simpa using ih
  ·cases hF
 ·cases hF
end Go.Proofs.YtopiadllkglamaaGreatDoor
