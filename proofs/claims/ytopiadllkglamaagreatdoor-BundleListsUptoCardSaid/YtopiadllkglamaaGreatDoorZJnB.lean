/- What the checks of distributions call: tree.Find,tree.index,build.part,closures. build.part,build.Check. What the reference's check of distributions calls: Has,Find,Mount. licitref15.Check. stri -/
import Derived.Test.YtopiadllkglamaaGreatDoorZJnA
import Derived.Test.YtopiadllkglamaaGreatDoorZRmD
import Derived.Test.YtopiadllkglamaaGreatDoorZRmI
import Derived.Test.YtopiadllkglamaaGreatDoorZPkC
import Derived.Test.YtopiadllkglamaaGreatDoorZRmB
import Derived.Test.YtopiadllkglamaaGreatDoorZPkA
namespace Go.Proofs.YtopiadllkglamaaGreatDoor
open Go.RowKit Go.IntWalk
def F_index1 : List AV → Heap → Option AV
 | [.agg [.str p,.str _],.ptr l 0],h => match h[l]? with
  | some (.cellsT _ [.str q]) => some (.bool (p == q))
  | _ => none
 | _,_ => none
theorem index1_ok {G : Gam} : ∀ args h r,F_index1 args h = some r → wpM G Mc.q75 (lookQ Rs.q75 r h) [] (frInit Ks.q75 args) h := by
 intro args h r hF
 unfold F_index1 at hF
 split at hF
 ·rename_i p d l
  split at hF
  ·rename_i tg q hh
   injection hF with hF; subst hF
   have hl : l < h.length := (List.getElem?_eq_some_iff.1 hh).1
   have hh2 : (h ++ [Blk.cells [.str p,.str d]])[l]? = some (.cellsT tg [.str q]) := by rw [List.getElem?_append_left hl]; exact hh
   rw [wpM_go]
   simp [Mc.q75,frInit,Ks.q75,hh2,strBin,lookQ,Rs.q75,owns,freezeAll]
  ·cases hF
 ·cases hF
def F_chkN : List AV → Heap → Option AV
 | [.agg [.str n,.str _,.str _,.sl _],.ptr l 0],h => match h[l]? with
  | some (.cellsT _ [.str q,.str _,.str _,.sl _]) => some (.bool (n == q))
  | _ => none
 | _,_ => none
theorem chkN_ok {G : Gam} : ∀ args h r,F_chkN args h = some r → wpM G Mc.q65 (lookQ Rs.q65 r h) [] (frInit Ks.q65 args) h := by
 intro args h r hF
 unfold F_chkN at hF
 split at hF
 ·rename_i n v c t l
  split at hF
  ·rename_i tg q v2 c2 t2 hh
   injection hF with hF; subst hF
   have hl : l < h.length := (List.getElem?_eq_some_iff.1 hh).1
   have hh2 : (h ++ [Blk.cells [.str n,.str v,.str c,.sl t]])[l]? = some (.cellsT tg [.str q,.str v2,.str c2,.sl t2]) := by rw [List.getElem?_append_left hl]; exact hh
   rw [wpM_go]
   simp [Mc.q65,frInit,Ks.q65,hh2,strBin,lookQ,Rs.q65,owns,freezeAll]
  ·cases hF
 ·cases hF
def F_chkP : List AV → Heap → Option AV
 | [.agg [.str p,.str _],.ptr l 0],h => match h[l]? with
  | some (.cellsT _ [.str q,.str _,.str _,.sl _]) => if p.length ≤ 1000000000 ∧ q.length ≤ 1000000000 then some (.bool (!pathOK (q ++ 47 :: p))) else none
  | _ => none
 | _,_ => none
theorem chkP_ok {G : Gam} (hP : G Fn.tree_Path = some (.pure F_Path)) : ∀ args h r,F_chkP args h = some r → wpM G Mc.q66 (lookQ Rs.q66 r h) [] (frInit Ks.q66 args) h := by
 intro args h r hF
 unfold F_chkP at hF
 split at hF
 ·rename_i p d l
  split at hF
  ·rename_i tg q v2 c2 t2 hh
   split at hF
   ·rename_i hb
    obtain ⟨hb1,hb2⟩ := hb
    injection hF with hF; subst hF
    have hl : l < h.length := (List.getElem?_eq_some_iff.1 hh).1
    have hh2 : (h ++ [Blk.cells [.str p,.str d]])[l]? = some (.cellsT tg [.str q,.str v2,.str c2,.sl t2]) := by rw [List.getElem?_append_left hl]; exact hh
    have a1 : binAV .add (.str q) (.str [47]) = some (.str (q ++ [47])) := by simp only [binAV,strBin]; rw [if_pos (by simp [strMax]; omega)]
    have a2 : binAV .add (.str (q ++ [47])) (.str p) = some (.str (q ++ 47 :: p)) := by simp only [binAV,strBin]; rw [if_pos (by simp [strMax]; omega)]; simp
    have cp : ∀ st h,opV G st h (.call Fn.tree_Path) (some [.str (q ++ 47 :: p)]) = some (.int .i64 (if pathOK (q ++ 47 :: p) then 0 else 2),h) := fun st h => op_call hP (us := [.str (q ++ 47 :: p)]) rfl (F1_use (A := eStr) (R := eInt) (x := q ++ 47 :: p) (r := if pathOK (q ++ 47 :: p) then 0 else 2) (by rw [if_pos (by simp; omega)])) (.inl rfl)
    rw [wpM_go]
    cases hpo : pathOK (q ++ 47 :: p) with
    | false =>
     rw [hpo] at cp
     simp [Mc.q66,frInit,Ks.q66,hh2,a1,a2,cp,eqB,lookQ,Rs.q66,owns,freezeAll]
    | true =>
     rw [hpo] at cp
     simp [Mc.q66,frInit,Ks.q66,hh2,a1,a2,cp,eqB,lookQ,Rs.q66,owns,freezeAll]
   ·cases hF
  ·cases hF
 ·cases hF
def findT (path : Bs) : List Touch → Bs × Bool
 | [] => ([],false)
 | f :: r => if f.path = path then (f.dig,true) else findT path r
theorem findT_any (path : Bs) : ∀ t : List Touch,(findT path t).2 = t.any fun f => f.path == path
 | [] => rfl
 | f :: r => by
  unfold findT
  by_cases h : f.path = path
  ·simp [h]
  ·have := findT_any path r
   simp [h,this]
theorem findT_idx (path : Bs) : ∀ (t : List Touch) (i : Nat),(findP (fun f : Touch => f.path == path) i t < 0 ∧ findT path t = ([],false)) ∨ ∃ k f,findP (fun f : Touch => f.path == path) i t = ((i + k : Nat) : Int) ∧ t[k]? = some f ∧ findT path t = (f.dig,true)
 | [],i => .inl ⟨by simp [findP],rfl⟩
 | f :: r,i => by
  by_cases h : f.path = path
  ·exact .inr ⟨0,f,by simp [findP,h],rfl,by simp [findT,h]⟩
  ·rcases findT_idx path r (i + 1) with ⟨h1,h2⟩ | ⟨k,g,h1,h2,h3⟩
   ·exact .inl ⟨by simpa [findP,h] using h1,by simp [findT,h,h2]⟩
   ·refine .inr ⟨k + 1,g,?_,by simpa using h2,by simp [findT,h,h3]⟩
    have e : i + (k + 1) = i + 1 + k := by omega
    rw [e]; simpa [findP,h] using h1
def F_tindex : List AV → Option AV
 | [.sl rows,.str path] => match decAll decTouch rows with
  | some t => if t.length ≤ big then some (.int .i64 (findP (fun f : Touch => f.path == path) 0 t)) else none
  | none => none
 | _ => none
theorem tindex_ok {G G0 : Gam} (hC : G Fn.q15 = some (.gen (lookF (F_IndexFunc true 2 G0)))) (h1 : G0 Fn.q75 = some (.gen (lookF F_index1))) :
  ∀ args r,F_tindex args = some r → wpM G Mc.tree_index (pureQ Rs.tree_index r) [] (frInit Ks.tree_index args) [] := by
 intro args r hF
 unfold F_tindex at hF
 split at hF
 ·rename_i rows path
  split at hF
  ·rename_i t hd
   split at hF
   ·rename_i hb
    injection hF with hF; subst hF
    obtain rfl : rows = touchRows t := decAll_of (fun r x => decTouch_of) hd
    have hc : opV G false [.cells [.str path]] (.call Fn.q15) (some [.sl (touchRows t),.fn Fn.q75 [.ptr 0 0]]) = some (.int .i64 (findP (fun f : Touch => f.path == path) 0 t),[.cells [.str path]]) :=
     index_use (G0 := G0) (xs := t) (e := Touch.row) (val := fun f => .agg f.row) (agg := true) (n := 2) hC hb mkT fun g _ => by
      refine ask_of ?_
      simp only [callAV,h1,lookF,F_index1,Touch.row,List.getElem?_cons_zero]
      rfl
    rw [wpM_go]
    simp [Mc.tree_index,frInit,Ks.tree_index,hc,pureQ,Rs.tree_index]
   ·cases hF
  ·cases hF
 ·cases hF
def F_tfind : List AV → Option AV
 | [.sl rows,.str path] => match decAll decTouch rows with
  | some t => if t.length ≤ big then some (.tup [.str (findT path t).1,.bool (findT path t).2]) else none
  | none => none
 | _ => none
theorem tfind_ok {G : Gam} (hI : G Fn.tree_index = some (.pure F_tindex)) : ∀ args r,F_tfind args = some r → wpM G Mc.tree_Find (pureQ Rs.tree_Find r) [] (frInit Ks.tree_Find args) [] := by
 intro args r hF
 unfold F_tfind at hF
 split at hF
 ·rename_i rows path
  split at hF
  ·rename_i t hd
   split at hF
   ·rename_i hb
    injection hF with hF; subst hF
    obtain rfl : rows = touchRows t := decAll_of (fun r x => decTouch_of) hd
    have ci : ∀ st h,opV G st h (.call Fn.tree_index) (some [.sl (touchRows t),.str path]) = some (.int .i64 (findP (fun f : Touch => f.path == path) 0 t),h) := fun st h => op_call hI (us := [.sl (touchRows t),.str path]) rfl (by simp only [F_tindex,dec_touchRows]; rw [if_pos hb]) (.inl rfl)
    rw [wpM_go]
    rcases findT_idx path t 0 with ⟨h1,h2⟩ | ⟨k,f,h1,h2,h3⟩
    ·have q : ltB (findP (fun f : Touch => f.path == path) 0 t) 0 = true := ltB_iff.2 h1
     rw [h2]
     simp [Mc.tree_Find,frInit,Ks.tree_Find,ci,q,pureQ,Rs.tree_Find]
    ·rw [h1] at ci
     have q : ltB (((0 + k : Nat) : Nat) : Int) 0 = false := ltB_not.2 (by omega)
     have ir : ∀ h,iadrAV 2 h (.sl (touchRows t)) (.int .i64 ((0 + k : Nat) : Int)) = some (.fptr [.str f.path,.str f.dig] 0) := fun h => by rw [Nat.zero_add]; exact iadr_sl (touchRows_get h2) rfl
     rw [h3]
     generalize 0 + k = K at ci q ir
     simp [Mc.tree_Find,frInit,Ks.tree_Find,ci,q,ir,cut,pureQ,Rs.tree_Find]
   ·cases hF
  ·cases hF
 ·cases hF
end Go.Proofs.YtopiadllkglamaaGreatDoor
namespace Go.Proofs.YtopiadllkglamaaGreatDoor
open Go.RowKit Go.IntWalk
theorem contains_one (c : UInt8) (s : Bs) : Lib.contains s [c] = decide (c ∈ s) := by
 unfold Lib.contains
 by_cases h : c ∈ s
 ·obtain ⟨a,b,_,_,hc⟩ := (index_one c s).1 h
  unfold Lib.cut at hc
  split at hc
  ·rename_i h2
   rw [decide_eq_true h,decide_eq_true h2]
  ·injection hc with _ hc; injection hc with _ hc; cases hc
 ·have hc := (index_one c s).2 h
  unfold Lib.cut at hc
  split at hc
  ·injection hc with _ hc; injection hc with _ hc; cases hc
  ·rename_i h2
   rw [decide_eq_false h,decide_eq_false h2]
theorem part_path (s : Bs) : (!Lib.contains s [47] && pathOK s) = partOK s := by
 rw [contains_one]
 by_cases h : (47 : UInt8) ∈ s
 ·have : partOK s = false := by
   cases hp : partOK s with
   | false => rfl
   | true => exact absurd h (part_noslash hp)
  simp [h,this]
 ·have e : splitBy 47 s = [s] := splitBy_none 47 s h
  cases hp : partOK s with
  | false => simp [h,pathOK,e,hp]
  | true =>
   have hl : s.length ≤ 32 := by
    match s,hp with
    | [],hp => simp
    | c :: r,hp =>
     simp only [partOK,Bool.and_eq_true,Bool.not_eq_true'] at hp
     have := ltB_not.1 hp.1.1.1
     omega
   have q : ltB 128 (s.length : Int) = false := ltB_not.2 (by omega)
   have q2 : ltB 8 1 = false := rfl
   simp [h,pathOK,e,hp,q,q2]
def F_bpart : List AV → Option AV := F1 eStr eBool fun s => if s.length < 4294967281 then some (partOK s) else none
theorem bpart_ok {G : Gam} (hC : G Fn.q49 = some (.pure F_Contains)) (hP : G Fn.tree_Path = some (.pure F_Path)) : ∀ args r,F_bpart args = some r → wpM G Mc.build_part (pureQ Rs.build_part r) [] (frInit Ks.build_part args) [] := F1_ok fun s r h => by
 split at h
 ·rename_i hs
  injection h with h; subst h
  rw [wpM_go,← part_path]
  have c1 : ∀ st h,opV G st h (.call Fn.q49) (some [.str s,.str [47]]) = some (.bool (Lib.contains s [47]),h) := fun st h => op_call hC (us := [.str s,.str [47]]) rfl (by simp only [F_Contains]; rw [if_pos hs]) (.inl rfl)
  have c2 : ∀ st h,opV G st h (.call Fn.tree_Path) (some [.str s]) = some (.int .i64 (if pathOK s then 0 else 2),h) := fun st h => op_call hP (us := [.str s]) rfl (F1_use (A := eStr) (R := eInt) (x := s) (r := if pathOK s then 0 else 2) (by rw [if_pos hs])) (.inl rfl)
  cases hc : Lib.contains s [47] <;> cases hp : pathOK s <;> rw [hc] at c1 <;> rw [hp] at c2 <;>
   simp [Mc.build_part,frInit,Ks.build_part,eStr,eBool,c1,c2,eqB,Rs.build_part]
 ·cases h
theorem mkP (p : Pkg) : mkVal true 4 p.row = some (.agg p.row) ∧ p.row.length = 4 := ⟨by simp [mkVal,Pkg.row],rfl⟩
theorem take_dist (n : Nat) (d : List Pkg) : (distRows d).take n = distRows (d.take n) := by simp [distRows,List.map_take]
theorem sizes_dist : ∀ d : List Pkg,sizesOk 4 (distRows d) = true
 | [] => rfl
 | _ :: r => by
  have := sizes_dist r
  simp only [distRows,List.map_cons,sizesOk,Pkg.row] at this ⊢
  simp [this]
theorem seen_any (nm : Bs) : ∀ d : List Pkg,(d.map (·.name)).contains nm = d.any fun q => q.name == nm
 | [] => rfl
 | q :: r => by
  have := seen_any nm r
  simp only [List.map_cons,List.contains_cons,List.any_cons,this]
  congr 1
  rw [Bool.eq_iff_iff]
  simp only [beq_iff_eq]
  exact eq_comm
theorem bcheck_L0 (G G0 G1 : Gam) (hN : G Fn.build_part = some (.pure F_bpart)) (hC : G Fn.q9 = some (.gen (lookF (F_ContainsFunc true 4 G0)))) (h1 : G0 Fn.q65 = some (.gen (lookF F_chkN)))
  (hT : G Fn.tree_Check = some (.pure F_treeCheck)) (hD : G Fn.q12 = some (.gen (lookF (F_ContainsFunc true 2 G1)))) (h2 : G1 Fn.q66 = some (.gen (lookF F_chkP))) (hF : G Fn.tree_Find = some (.pure F_tfind))
  (d : List Pkg) (hok : ∀ p ∈ d,okPkg p = true) (hb : d.length ≤ 16) (r : Int) : ∀ (rest : List Pkg) (i n : Nat) (x y z : AV) (H : Heap),d.drop i = rest → i ≤ d.length → n ≤ 64 → r = distFrom ((d.take i).map (·.name)) n rest →
  headM G [4,5,7] Mc.build_Check_L0 0 [.blk 0,.seq (.seq (.reg [⟨none,some 2,true,.mv,[.c (.int .i64 0)]⟩]) .ret)] (pureQ Rs.build_Check (.int .i64 r))
   [(0,.sl (distRows d)),(2,.int .i64 0),(3,.int .i64 n),(4,x),(5,y),(7,z),(11,.sl (distRows d)),(12,.int .i64 d.length),(13,.int .i64 i)] H
 | [],i,n,x,y,z,H,hd,hi,hn,hr => by
  have hi2 := drop_nil hd
  have hl : ltB (i : Int) (d.length : Int) = false := ltB_not.2 (by omega)
  simp only [distFrom] at hr
  subst hr
  refine head_go (Mc.build_Check_L0.eq_1) ?_
  simp [hl,trunc,lowFr,low,lowH,pureQ,Rs.build_Check]
 | p :: rest,i,n,x,y,z,H,hd,hi,hn,hr => by
  obtain ⟨hlt,hx,hxd⟩ := drop_cons hd
  have hl : ltB (i : Int) (d.length : Int) = true := ltB_iff.2 (by omega)
  have hop := hok p (List.mem_of_getElem? hx)
  simp only [okPkg,Bool.and_eq_true,decide_eq_true_eq] at hop
  obtain ⟨⟨⟨⟨o1,o2⟩,o3⟩,o4⟩,o5⟩ := hop
  have o5' : ∀ f ∈ p.tree,f.path.length ≤ 1000000000 := fun f hf => by have := List.all_eq_true.1 o5 f hf; simp only [Bool.and_eq_true,decide_eq_true_eq] at this; exact this.1
  have hrow := distRows_get hx
  have wi : IntKind.i64.wrap ((i : Int) + 1) = ((i + 1 : Nat) : Int) := wrap1 (by unfold big; omega)
  have ir : ∀ st h,opV G st h (.iadr 4) (some [.sl (distRows d),.int .i64 i]) = some (.fptr [.str p.name,.str p.ver,.str p.rcp,.sl (touchRows p.tree)] 0,h) := fun st h => by
   rw [opV_quiet rfl]; simp [evalPure,iadrAV,hrow]
  have part : ∀ s : Bs,s.length ≤ 1000000000 → ∀ st h,opV G st h (.call Fn.build_part) (some [.str s]) = some (.bool (partOK s),h) := fun s hs st h => op_call hN (us := [.str s]) rfl (F1_use (A := eStr) (R := eBool) (x := s) (by rw [if_pos (by omega)])) (.inl rfl)
  have c1 := part p.name o1
  have c2 := part p.ver o2
  have sl : ∀ st h,opV G st h (.slc (some 4) false true false) (some [.sl (distRows d),.int .i64 i]) = some (.sl (distRows (d.take i)),h) := fun st h => by
   rw [op_slc_hi (by simp; omega) (sizes_dist d),take_dist]
  have c3 : opV G false [.cells [.str p.name,.str p.ver,.str p.rcp,.sl (touchRows p.tree)]] (.call Fn.q9) (some [.sl (distRows (d.take i)),.fn Fn.q65 [.ptr 0 0]]) = some (.bool ((d.take i).any fun q => q.name == p.name),[.cells [.str p.name,.str p.ver,.str p.rcp,.sl (touchRows p.tree)]]) :=
   contains_use (G0 := G0) (xs := d.take i) (e := Pkg.row) (val := fun q => .agg q.row) (agg := true) (n := 4) hC (by simp; unfold big; omega) mkP fun g _ => by
    refine ask_of ?_
    simp only [callAV,h1,lookF,F_chkN,Pkg.row,List.getElem?_cons_zero]
    rfl
  have c4 : ∀ st h,opV G st h (.call Fn.tree_Check) (some [.sl (touchRows p.tree)]) = some (.int .i64 (treeE p.tree),h) := fun st h => op_call hT (us := [.sl (touchRows p.tree)]) rfl (by
   simp only [F_treeCheck,dec_touchRows]
   rw [if_pos (List.all_eq_true.2 fun f hf => by have := o5' f hf; simp; omega)]) (.inl rfl)
  have c5 : opV G false [.cells [.str p.name,.str p.ver,.str p.rcp,.sl (touchRows p.tree)]] (.call Fn.q12) (some [.sl (touchRows p.tree),.fn Fn.q66 [.ptr 0 0]]) = some (.bool (p.tree.any fun f => !pathOK (p.name ++ 47 :: f.path)),[.cells [.str p.name,.str p.ver,.str p.rcp,.sl (touchRows p.tree)]]) :=
   contains_use (G0 := G1) (xs := p.tree) (e := Touch.row) (val := fun f => .agg f.row) (agg := true) (n := 2) hD (by unfold big; omega) mkT fun f hf => by
    refine ask_of ?_
    simp only [callAV,h2,lookF,F_chkP,Touch.row,List.getElem?_cons_zero]
    rw [if_pos ⟨o5' f hf,o1⟩]
    rfl
  have c6 : ∀ st h,opV G st h (.call Fn.tree_Find) (some [.sl (touchRows p.tree),.str p.rcp]) = some (.tup [.str (findT p.rcp p.tree).1,.bool (findT p.rcp p.tree).2],h) := fun st h => op_call hF (us := [.sl (touchRows p.tree),.str p.rcp]) rfl (by simp only [F_tfind,dec_touchRows]; rw [if_pos (by unfold big; omega)]) (.inl rfl)
  rw [distFrom] at hr
  have hpk : pkgE ((d.take i).map (·.name)) p = (if (partOK p.name && partOK p.ver) = false then 2 else if ((d.take i).any fun q => q.name == p.name) then 6 else if treeE p.tree ≠ 0 then 1 else if (p.tree.any fun f => !pathOK (p.name ++ 47 :: f.path)) then 2 else if (findT p.rcp p.tree).2 = false then 7 else 0) := by
   unfold pkgE; rw [seen_any,findT_any]
  have htk : d.take (i + 1) = d.take i ++ [p] := by rw [List.take_add_one,hx]; rfl
  have ih := fun X Y Z H' m hm hr' => bcheck_L0 G G0 G1 hN hC h1 hT hD h2 hF d hok hb r rest (i + 1) m X Y Z H' hxd (by omega) hm hr'
  rw [htk,List.map_append] at ih
  generalize hpe : pkgE ((d.take i).map (·.name)) p = pe at hr hpk
  refine head_go (Mc.build_Check_L0.eq_1) ?_
  have e20 : eqB 2 0 = false := rfl
  cases hpn : partOK p.name with
  | false =>
   rw [hpn] at c1 hpk
   simp only [Bool.false_and,if_true] at hpk
   subst hpk
   simp only [ne_eq,Int.reduceEq,not_false_eq_true,if_true] at hr
   subst hr
   simp [hl,trunc,lowFr,low,lowH,ir,c1,oneC,AV.cells,setAt,cut,mkVal,pureQ,Rs.build_Check]
  | true =>
   rw [hpn] at c1 hpk
   cases hpv : partOK p.ver with
   | false =>
    rw [hpv] at c2 hpk
    simp only [Bool.and_false,if_true] at hpk
    subst hpk
    simp only [ne_eq,Int.reduceEq,not_false_eq_true,if_true] at hr
    subst hr
    simp [hl,trunc,lowFr,low,lowH,ir,c1,c2,oneC,AV.cells,setAt,cut,mkVal,pureQ,Rs.build_Check]
   | true =>
    rw [hpv] at c2 hpk
    simp only [Bool.and_self,Bool.true_eq_false,if_false] at hpk
    cases hse : (d.take i).any fun q => q.name == p.name with
    | true =>
     rw [hse] at c3 hpk
     simp only [if_true] at hpk
     subst hpk
     simp only [ne_eq,Int.reduceEq,not_false_eq_true,if_true] at hr
     subst hr
     simp [hl,trunc,lowFr,low,lowH,ir,c1,c2,sl,c3,oneC,AV.cells,setAt,cut,mkVal,pureQ,Rs.build_Check]
    | false =>
     rw [hse] at c3 hpk
     simp only [Bool.false_eq_true,if_false] at hpk
     by_cases hte : treeE p.tree = 0
     ·rw [hte] at c4 hpk
      simp only [ne_eq,not_true_eq_false,if_false] at hpk
      cases hpa : p.tree.any fun f => !pathOK (p.name ++ 47 :: f.path) with
      | true =>
       rw [hpa] at c5 hpk
       simp only [if_true] at hpk
       subst hpk
       simp only [ne_eq,Int.reduceEq,not_false_eq_true,if_true] at hr
       subst hr
       simp [hl,trunc,lowFr,low,lowH,ir,c1,c2,sl,c3,c4,c5,oneC,AV.cells,setAt,cut,mkVal,pureQ,Rs.build_Check]
      | false =>
       rw [hpa] at c5 hpk
       simp only [Bool.false_eq_true,if_false] at hpk
       cases hfi : (findT p.rcp p.tree).2 with
       | false =>
        rw [hfi] at c6 hpk
        simp only [if_true] at hpk
        subst hpk
        simp only [ne_eq,Int.reduceEq,not_false_eq_true,if_true] at hr
        subst hr
        simp [hl,trunc,lowFr,low,lowH,ir,c1,c2,sl,c3,c4,c5,c6,oneC,AV.cells,setAt,cut,mkVal,pureQ,Rs.build_Check]
       | true =>
        rw [hfi] at c6 hpk
        simp only [Bool.true_eq_false,if_false] at hpk
        subst hpk
        simp only [ne_eq,not_true_eq_false,if_false] at hr
        have wn : IntKind.i64.wrap ((n : Int) + (p.tree.length : Int)) = ((n + p.tree.length : Nat) : Int) := by rw [i64_in _ ⟨by omega,by omega⟩]; omega
        by_cases hbg : 64 < n + p.tree.length
        ·rw [if_pos hbg] at hr
         subst hr
         have q : ltB 64 ((n + p.tree.length : Nat) : Int) = true := ltB_iff.2 (by omega)
         generalize n + p.tree.length = M at wn q
         simp [hl,trunc,lowFr,low,lowH,ir,c1,c2,sl,c3,c4,c5,c6,wn,q,lenAV,oneC,AV.cells,setAt,cut,mkVal,pureQ,Rs.build_Check]
        ·rw [if_neg hbg] at hr
         have q : ltB 64 ((n + p.tree.length : Nat) : Int) = false := ltB_not.2 (by omega)
         have ih2 := fun X Y Z H' => ih X Y Z H' (n + p.tree.length) (by omega) hr
         generalize n + p.tree.length = M at wn q ih2
         simp [hl,trunc,lowFr,low,lowH,ir,c1,c2,sl,c3,c4,c5,c6,wn,wi,q,lenAV,oneC,AV.cells,setAt,cut,mkVal]
         simpa using ih2 _ _ _ _
     ·have q : eqB (treeE p.tree) 0 = false := eqB_not.2 hte
      rw [if_pos hte] at hpk
      subst hpk
      simp only [ne_eq,Int.reduceEq,not_false_eq_true,if_true] at hr
      subst hr
      simp [hl,trunc,lowFr,low,lowH,ir,c1,c2,sl,c3,c4,q,oneC,AV.cells,setAt,cut,mkVal,pureQ,Rs.build_Check]
theorem bcheck_ok {G G0 G1 : Gam} (hN : G Fn.build_part = some (.pure F_bpart)) (hC : G Fn.q9 = some (.gen (lookF (F_ContainsFunc true 4 G0)))) (h1 : G0 Fn.q65 = some (.gen (lookF F_chkN)))
  (hT : G Fn.tree_Check = some (.pure F_treeCheck)) (hD : G Fn.q12 = some (.gen (lookF (F_ContainsFunc true 2 G1)))) (h2 : G1 Fn.q66 = some (.gen (lookF F_chkP))) (hF : G Fn.tree_Find = some (.pure F_tfind)) :
  ∀ args r,F_distE args = some r → wpM G Mc.build_Check (pureQ Rs.build_Check r) [] (frInit Ks.build_Check args) [] := by
 intro args r hF0
 unfold F_distE at hF0
 split at hF0
 ·rename_i rows
  split at hF0
  ·rename_i d hdec
   split at hF0
   ·rename_i hok
    injection hF0 with hF0; subst hF0
    obtain rfl : rows = distRows d := decAll_of (fun r x => decPkg_of) hdec
    simp only [okDist,Bool.and_eq_true,decide_eq_true_eq] at hok
    rw [wpM_go]
    by_cases hb : 16 < d.length
    ·have q : ltB 16 (d.length : Int) = true := ltB_iff.2 (by omega)
     have e : distE d = 10 := by unfold distE; rw [if_pos hb]
     rw [e]
     simp [Mc.build_Check,frInit,Ks.build_Check,q,pureQ,Rs.build_Check]
    ·have q : ltB 16 (d.length : Int) = false := ltB_not.2 (by omega)
     have ih := bcheck_L0 G G0 G1 hN hC h1 hT hD h2 hF d (List.all_eq_true.1 hok.2) (by omega) (distE d) d 0 0 .junk .junk .junk [] rfl (by omega) (by omega) (by unfold distE; rw [if_neg hb]; rfl)
     simp [Mc.build_Check,frInit,Ks.build_Check,q]
     simpa using ih
   ·cases hF0
  ·cases hF0
 ·cases hF0
end Go.Proofs.YtopiadllkglamaaGreatDoor
namespace Go.Proofs.YtopiadllkglamaaGreatDoor
open Go.RowKit Go.IntWalk
theorem has05_L0 (G : Gam) (xs : List Bs) (s : Bs) (hb : xs.length ≤ big) : ∀ (rest : List Bs) (i : Nat) (x : AV),xs.drop i = rest → i ≤ xs.length →
  headM G [6] Mc.q61_L0 0 [.blk 0,.seq (.seq (.reg [⟨none,some 4,true,.mv,[.c (.bool false)]⟩]) .ret)] (pureQ Rs.q61 (.bool (rest.contains s)))
   [(0,.sl (encStrs xs)),(1,.str s),(4,.bool false),(6,x),(7,.sl (encStrs xs)),(8,.int .i64 xs.length),(9,.int .i64 i)] []
 | [],i,x,hd,hi => by
  have hi2 := drop_nil hd
  have hl : ltB (i : Int) (xs.length : Int) = false := ltB_not.2 (by omega)
  refine head_go (Mc.q61_L0.eq_1) ?_
  simp [junkAll,trunc,lowFr,low,lowH,hl,pureQ,Rs.q61]
 | y :: rest,i,x,hd,hi => by
  obtain ⟨hlt,hx,hxd⟩ := drop_cons hd
  have hl : ltB (i : Int) (xs.length : Int) = true := ltB_iff.2 (by omega)
  have wi : IntKind.i64.wrap ((i : Int) + 1) = ((i + 1 : Nat) : Int) := wrap1 (by unfold big at hb ⊢; omega)
  refine head_go (Mc.q61_L0.eq_1) ?_
  by_cases he : y = s
  ·subst he
   simp [junkAll,trunc,lowFr,low,lowH,hl,iadr_sl (encStrs_get hx),cut,strBin,pureQ,Rs.q61]
  ·have hbe : (y == s) = false := by simp [he]
   have ih := has05_L0 G xs s hb rest (i + 1) .junk hxd (by omega)
   have hne : ¬ s = y := fun e => he e.symm
   simp [junkAll,trunc,lowFr,low,lowH,hl,iadr_sl (encStrs_get hx),cut,strBin,hbe,wi,hne]
   refine head_of ?_
   simpa [junkAll,trunc,lowFr,low,lowH] using ih
theorem has05_ok {G : Gam} : ∀ args r,F_ContainsS args = some r → wpM G Mc.q61 (pureQ Rs.q61 r) [] (frInit Ks.q61 args) [] := by
 intro args r h
 unfold F_ContainsS at h
 split at h
 ·rename_i a s
  split at h
  ·rename_i xs h1
   have := decStrs_of h1; subst this
   split at h
   ·rename_i hb
    injection h with h; subst h
    rw [idx_nonneg,wpM_go]
    have ih := has05_L0 G xs s hb xs 0 .junk rfl (by simp)
    simpa [Mc.q61,frInit,Ks.q61] using ih
   ·cases h
  ·cases h
 ·cases h
theorem find03_L0 (G : Gam) (t : List Touch) (path : Bs) (hb : t.length ≤ big) : ∀ (rest : List Touch) (i : Nat) (x : AV) (H : Heap),t.drop i = rest → i ≤ t.length →
  headM G [7] Mc.q58_L0 0 [.blk 0,.seq (.seq (.reg [⟨none,some 4,true,.mv,[.c (.str [])]⟩,⟨none,some 5,true,.mv,[.c (.bool false)]⟩]) .ret)] (pureQ Rs.q58 (.tup [.str (findT path rest).1,.bool (findT path rest).2]))
   [(0,.sl (touchRows t)),(1,.str path),(4,.str []),(5,.bool false),(7,x),(8,.sl (touchRows t)),(9,.int .i64 t.length),(10,.int .i64 i)] H
 | [],i,x,H,hd,hi => by
  have hi2 := drop_nil hd
  have hl : ltB (i : Int) (t.length : Int) = false := ltB_not.2 (by omega)
  refine head_go (Mc.q58_L0.eq_1) ?_
  simp [junkAll,trunc,lowFr,low,lowH,hl,findT,pureQ,Rs.q58]
 | f :: rest,i,x,H,hd,hi => by
  obtain ⟨hlt,hx,hxd⟩ := drop_cons hd
  have hl : ltB (i : Int) (t.length : Int) = true := ltB_iff.2 (by omega)
  have wi : IntKind.i64.wrap ((i : Int) + 1) = ((i + 1 : Nat) : Int) := wrap1 (by unfold big at hb ⊢; omega)
  have hrow := touchRows_get hx
  have ir : ∀ st h,opV G st h (.iadr 2) (some [.sl (touchRows t),.int .i64 i]) = some (.fptr [.str f.path,.str f.dig] 0,h) := fun st h => by
   rw [opV_quiet rfl]; simp [evalPure,iadrAV,hrow]
  refine head_go (Mc.q58_L0.eq_1) ?_
  by_cases he : f.path = path
  ·have hf : findT path (f :: rest) = (f.dig,true) := by unfold findT; rw [if_pos he]
   have hbe : (f.path == path) = true := by simp [he]
   rw [hf]
   simp [junkAll,trunc,lowFr,low,lowH,hl,ir,strBin,hbe,oneC,AV.cells,setAt,cut,mkVal,pureQ,Rs.q58]
  ·have hf : findT path (f :: rest) = findT path rest := by conv => lhs; unfold findT; rw [if_neg he]
   have hbe : (f.path == path) = false := by simp [he]
   have ih := fun X H' => find03_L0 G t path hb rest (i + 1) X H' hxd (by omega)
   rw [hf]
   simp [junkAll,trunc,lowFr,low,lowH,hl,ir,strBin,hbe,wi,oneC,AV.cells,setAt,cut,mkVal]
   simpa using ih _ _
theorem find03_ok {G : Gam} : ∀ args r,F_tfind args = some r → wpM G Mc.q58 (pureQ Rs.q58 r) [] (frInit Ks.q58 args) [] := by
 intro args r hF
 unfold F_tfind at hF
 split at hF
 ·rename_i rows path
  split at hF
  ·rename_i t hd
   split at hF
   ·rename_i hb
    injection hF with hF; subst hF
    obtain rfl : rows = touchRows t := decAll_of (fun r x => decTouch_of) hd
    have ih := find03_L0 G t path hb t 0 .junk [] rfl (by simp)
    rw [wpM_go]
    simpa [Mc.q58,frInit,Ks.q58] using ih
   ·cases hF
  ·cases hF
 ·cases hF
theorem tr_nil : touchRows [] = [] := rfl
def mountE (n : Bs) (t : List Touch) : List Touch × Int :=
 if treeE t ≠ 0 then ([],1) else if pathOK n = false then ([],2) else if t.any (fun f => !pathOK (n ++ 47 :: f.path)) then ([],2) else (t.map (fullT n),0)
def F_mount : List AV → Option AV
 | [.sl rows,.str n] => match decAll decTouch rows with
  | some t => if n.length ≤ 1000000000 ∧ (t.all fun f => decide (f.path.length ≤ 1000000000)) = true then some (.tup [.sl (touchRows (mountE n t).1),.int .i64 (mountE n t).2]) else none
  | none => none
 | _ => none
theorem mount_L0 (G : Gam) (hP : G Fn.q55 = some (.pure F_Path)) (t : List Touch) (n : Bs) (hn : n.length ≤ 128) (hb : t.length ≤ 64) (ht : ∀ f ∈ t,f.path.length ≤ 128) (fin : List Touch × Int) : ∀ (rest : List Touch) (i : Nat) (_x : AV) (os : List Touch) (_H : Heap),t.drop i = rest → i ≤ t.length → os.length = i →
  fin = (if rest.any (fun f => !pathOK (n ++ 47 :: f.path)) then ([],2) else (os ++ rest.map (fullT n),0)) →
  headM G [8] Mc.q46_L0 2 [.blk 0,.seq (.seq (.reg [⟨none,some 40,false,.mv,[.t 6]⟩,⟨none,some 4,true,.mv,[.t 40]⟩,⟨none,some 5,true,.mv,[.c (.int .i64 0)]⟩]) .ret)] (pureQ Rs.q46 (.tup [.sl (touchRows fin.1),.int .i64 fin.2]))
   [(0,.sl (touchRows t)),(1,.str n),(4,.own 0 0 0),(5,.int .i64 0),(6,.own 1 os.length os.length),(8,.junk),(15,.sl (touchRows t)),(16,.int .i64 t.length),(17,.int .i64 i)] [.arr 2 0 [] true,.arr 2 os.length (touchRows os) true]
 | [],i,x,os,H,hd,hi,ho,hfin => by
  have hi2 := drop_nil hd
  have hl : ltB (i : Int) (t.length : Int) = false := ltB_not.2 (by omega)
  have hro : rowsOf [Blk.arr 2 0 [] true,.arr 2 os.length (touchRows os) true] (.own 1 os.length os.length) = some (touchRows os) := rows_own (l := 1) rfl (by simp)
  simp only [List.any_nil,Bool.false_eq_true,if_false,List.map_nil,List.append_nil] at hfin
  subst hfin
  refine head_go (Mc.q46_L0.eq_1) ?_
  rw [vtrunc_len (n := 2) rfl]
  simp [hl,hro,pureQ,Rs.q46]
 | f :: rest,i,x,os,H,hd,hi,ho,hfin => by
  obtain ⟨hlt,hx,hxd⟩ := drop_cons hd
  have hl : ltB (i : Int) (t.length : Int) = true := ltB_iff.2 (by omega)
  have wi : IntKind.i64.wrap ((i : Int) + 1) = (i : Int) + 1 := wrap1 (by unfold big; omega)
  have hrow := touchRows_get hx
  have hfl := ht f (List.mem_of_getElem? hx)
  have ir : ∀ st h,opV G st h (.iadr 2) (some [.sl (touchRows t),.int .i64 i]) = some (.fptr [.str f.path,.str f.dig] 0,h) := fun st h => by
   rw [opV_quiet rfl]; simp [evalPure,iadrAV,hrow]
  have a1 : binAV .add (.str n) (.str [47]) = some (.str (n ++ [47])) := by simp only [binAV,strBin]; rw [if_pos (by simp [strMax]; omega)]
  have a2 : binAV .add (.str (n ++ [47])) (.str f.path) = some (.str (n ++ 47 :: f.path)) := by simp only [binAV,strBin]; rw [if_pos (by simp [strMax]; omega)]; simp
  have cp : ∀ st h,opV G st h (.call Fn.q55) (some [.str (n ++ 47 :: f.path)]) = some (.int .i64 (if pathOK (n ++ 47 :: f.path) then 0 else 2),h) := fun st h => op_call hP (us := [.str (n ++ 47 :: f.path)]) rfl (F1_use (A := eStr) (R := eInt) (x := n ++ 47 :: f.path) (r := if pathOK (n ++ 47 :: f.path) then 0 else 2) (by rw [if_pos (by simp; omega)])) (.inl rfl)
  have fail : ∀ (a b c : Blk),rowsOf [a,b,c,.arr 2 0 [] true] (.own 3 0 0) = some [] := fun a b c => rfl
  refine head_go (Mc.q46_L0.eq_1) ?_
  rw [vtrunc_len (n := 2) rfl]
  cases hpo : pathOK (n ++ 47 :: f.path) with
  | false =>
   rw [hpo] at cp
   have hf : fin = ([],2) := by rw [hfin,if_pos (by simp [hpo])]
   subst hf
   simp [hl,ir,a1,a2,cp,eqB,oneC,AV.cells,setAt,cut,mkVal,fail,tr_nil,pureQ,Rs.q46]
  | true =>
   rw [hpo] at cp
   have ap : ∀ c : Blk,opV G false [.arr 2 0 [] true,.arr 2 os.length (touchRows os) true,c] (.app false 2 32) (some [.own 1 os.length os.length,.tsl [[.str (n ++ 47 :: f.path),.str f.dig]]]) = some (.own 1 (os.length + 1) (os.length + 1),[.arr 2 0 [] true,.arr 2 (os.length + 1) (touchRows (os ++ [fullT n f])) true,c]) := fun c => by
    have := op_app1 (G := G) (s := false) (h := [.arr 2 0 [] true,.arr 2 os.length (touchRows os) true,c]) (e := Touch.row) (n := 2) (b := 32) (l := 1) (os := os) (x := fullT n f) rfl rfl (by omega) (by unfold big; omega)
    simpa [touchRows,Touch.row,fullT] using this
   have ih := mount_L0 G hP t n hn hb ht fin rest (i + 1) .junk (os ++ [fullT n f]) [] hxd (by omega) (by simp; omega) (by
    rw [hfin]; simp [hpo])
   simp [hl,ir,a1,a2,cp,eqB,oneC,AV.cells,setAt,cut,mkVal,bldAV,ownsL,owns,viewL,view,sizesOk,onesOk,ap,wi]
   refine head_of ?_
   have hlen : (os ++ [fullT n f]).length = os.length + 1 := by simp
   rw [hlen] at ih
   simpa [junkAll,trunc,lowFr,low,lowH] using ih
theorem mount_ok {G : Gam} (hT : G Fn.q45 = some (.pure F_treeCheck)) (hP : G Fn.q55 = some (.pure F_Path)) : ∀ args r,F_mount args = some r → wpM G Mc.q46 (pureQ Rs.q46 r) [] (frInit Ks.q46 args) [] := by
 intro args r hF
 unfold F_mount at hF
 split at hF
 ·rename_i rows n
  split at hF
  ·rename_i t hd
   split at hF
   ·rename_i hc
    obtain ⟨hn,hall⟩ := hc
    injection hF with hF; subst hF
    obtain rfl : rows = touchRows t := decAll_of (fun r x => decTouch_of) hd
    have c1 : ∀ st h,opV G st h (.call Fn.q45) (some [.sl (touchRows t)]) = some (.int .i64 (treeE t),h) := fun st h => op_call hT (us := [.sl (touchRows t)]) rfl (by
     simp only [F_treeCheck,dec_touchRows]
     rw [if_pos (List.all_eq_true.2 fun f hf => by have := List.all_eq_true.1 hall f hf; simp only [decide_eq_true_eq] at this ⊢; omega)]) (.inl rfl)
    have c2 : ∀ st h,opV G st h (.call Fn.q55) (some [.str n]) = some (.int .i64 (if pathOK n then 0 else 2),h) := fun st h => op_call hP (us := [.str n]) rfl (F1_use (A := eStr) (R := eInt) (x := n) (r := if pathOK n then 0 else 2) (by rw [if_pos (by omega)])) (.inl rfl)
    rw [wpM_go]
    by_cases hte : treeE t = 0
    ·rw [hte] at c1
     cases hpn : pathOK n with
     | false =>
      rw [hpn] at c2
      have e : mountE n t = ([],2) := by unfold mountE; rw [if_neg (by simp [hte]),if_pos hpn]
      have fail : ∀ (a : Blk),rowsOf [a,.arr 2 0 [] true] (.own 1 0 0) = some [] := fun a => rfl
      rw [e]
      simp [Mc.q46,frInit,Ks.q46,c1,c2,eqB,fail,tr_nil,pureQ,Rs.q46]
     | true =>
      rw [hpn] at c2
      obtain ⟨t1,t2⟩ := treeE_files hte
      have ih := mount_L0 G hP t n (path_len hpn) t1 (fun f hf => (t2 f hf).1) (mountE n t) t 0 .junk [] [] rfl (by omega) rfl (by unfold mountE; rw [if_neg (by simp [hte]),if_neg (by simp [hpn])]; simp)
      simp [Mc.q46,frInit,Ks.q46,c1,c2,eqB]
      simpa [touchRows] using ih
    ·have q : eqB (treeE t) 0 = false := eqB_not.2 hte
     have e : mountE n t = ([],1) := by unfold mountE; rw [if_pos hte]
     have fail : ∀ (a : Blk),rowsOf [a,.arr 2 0 [] true] (.own 1 0 0) = some [] := fun a => rfl
     rw [e]
     simp [Mc.q46,frInit,Ks.q46,c1,q,fail,tr_nil,pureQ,Rs.q46]
   ·cases hF
  ·cases hF
 ·cases hF
end Go.Proofs.YtopiadllkglamaaGreatDoor
namespace Go.Proofs.YtopiadllkglamaaGreatDoor
open Go.RowKit Go.IntWalk
theorem dec_encStrs : ∀ xs : List Bs,decStrs (encStrs xs) = some xs
 | [] => rfl
 | x :: r => by
  have ih := dec_encStrs r
  simp [decStrs,encStrs] at ih ⊢; simpa using ih
theorem part_pathOK {s : Bs} (h : partOK s = true) : pathOK s = true := by
 have := part_path s
 rw [h] at this
 simp only [Bool.and_eq_true] at this
 exact this.2
theorem mount_code {p : Pkg} (hn : partOK p.name = true) (ht : treeE p.tree = 0) : (mountE p.name p.tree).2 = if p.tree.any (fun f => !pathOK (p.name ++ 47 :: f.path)) then 2 else 0 := by
 unfold mountE
 rw [if_neg (by simp [ht]),if_neg (by simp [part_pathOK hn])]
 split <;> rfl
theorem r15_L0 (G : Gam) (hN : G Fn.q57 = some (.pure F_name)) (hH : G Fn.q61 = some (.pure F_ContainsS)) (hT : G Fn.q45 = some (.pure F_treeCheck)) (hM : G Fn.q46 = some (.pure F_mount)) (hF : G Fn.q58 = some (.pure F_tfind))
  (d : List Pkg) (hok : ∀ p ∈ d,okPkg p = true) (hb : d.length ≤ 16) (r : Int) : ∀ (rest : List Pkg) (i n : Nat) (os : List Bs),d.drop i = rest → i ≤ d.length → n ≤ 64 → os.length = i → r = distFrom os n rest →
  headM G [6,8,10] Mc.q44_L0 1 [.blk 0,.seq (.seq (.reg [⟨none,some 2,true,.mv,[.c (.int .i64 0)]⟩]) .ret)] (pureQ Rs.q44 (.int .i64 r))
   [(0,.sl (distRows d)),(2,.int .i64 0),(3,.int .i64 n),(4,.own 0 os.length os.length),(6,.junk),(8,.junk),(10,.junk),(14,.sl (distRows d)),(15,.int .i64 d.length),(16,.int .i64 i)] [.arr 1 os.length (encStrs os) true]
 | [],i,n,os,hd,hi,hn,ho,hr => by
  have hi2 := drop_nil hd
  have hl : ltB (i : Int) (d.length : Int) = false := ltB_not.2 (by omega)
  simp only [distFrom] at hr
  subst hr
  refine head_go (Mc.q44_L0.eq_1) ?_
  rw [vtrunc_len (n := 1) rfl]
  simp [hl,pureQ,Rs.q44]
 | p :: rest,i,n,os,hd,hi,hn,ho,hr => by
  obtain ⟨hlt,hx,hxd⟩ := drop_cons hd
  have hl : ltB (i : Int) (d.length : Int) = true := ltB_iff.2 (by omega)
  have hop := hok p (List.mem_of_getElem? hx)
  simp only [okPkg,Bool.and_eq_true,decide_eq_true_eq] at hop
  obtain ⟨⟨⟨⟨o1,o2⟩,o3⟩,o4⟩,o5⟩ := hop
  have o5' : ∀ f ∈ p.tree,f.path.length ≤ 1000000000 := fun f hf => by have := List.all_eq_true.1 o5 f hf; simp only [Bool.and_eq_true,decide_eq_true_eq] at this; exact this.1
  have hrow := distRows_get hx
  have wi : IntKind.i64.wrap ((i : Int) + 1) = (i : Int) + 1 := wrap1 (by unfold big; omega)
  have ir : ∀ st h,opV G st h (.iadr 4) (some [.sl (distRows d),.int .i64 i]) = some (.fptr [.str p.name,.str p.ver,.str p.rcp,.sl (touchRows p.tree)] 0,h) := fun st h => by
   rw [opV_quiet rfl]; simp [evalPure,iadrAV,hrow]
  have part : ∀ s : Bs,s.length ≤ 1000000000 → ∀ st h,opV G st h (.call Fn.q57) (some [.str s]) = some (.bool (partOK s),h) := fun s hs st h => op_call hN (us := [.str s]) rfl (F1_use (A := eStr) (R := eBool) (x := s) (by rw [if_pos (by unfold big; omega)])) (.inl rfl)
  have c1 := part p.name o1
  have c2 := part p.ver o2
  have c3 : ∀ (c : Blk) st,opV G st [.arr 1 os.length (encStrs os) true,c] (.call Fn.q61) (some [.own 0 os.length os.length,.str p.name]) = some (.bool (os.contains p.name),[.arr 1 os.length (encStrs os) true,c]) := fun c st => by
   have hro : rowsOf [Blk.arr 1 os.length (encStrs os) true,c] (.own 0 os.length os.length) = some (encStrs os) := rows_own (l := 0) rfl (by simp)
   refine op_call hH (us := [.sl (encStrs os),.str p.name]) (by simp [viewL,view,hro]) ?_ (.inl rfl)
   simp only [F_ContainsS,dec_encStrs]
   rw [if_pos (by unfold big; omega),idx_nonneg]
  have ap : ∀ c : Blk,opV G false [.arr 1 os.length (encStrs os) true,c] (.app false 1 16) (some [.own 0 os.length os.length,.tsl [[.str p.name]]]) = some (.own 0 (os.length + 1) (os.length + 1),[.arr 1 (os.length + 1) (encStrs (os ++ [p.name])) true,c]) := fun c => by
   have := op_app1 (G := G) (s := false) (h := [.arr 1 os.length (encStrs os) true,c]) (e := fun w : Bs => [AV.str w]) (n := 1) (b := 16) (l := 0) (os := os) (x := p.name) rfl rfl (by omega) (by unfold big; omega)
   simpa [encStrs] using this
  have c4 : ∀ st h,opV G st h (.call Fn.q45) (some [.sl (touchRows p.tree)]) = some (.int .i64 (treeE p.tree),h) := fun st h => op_call hT (us := [.sl (touchRows p.tree)]) rfl (by
   simp only [F_treeCheck,dec_touchRows]
   rw [if_pos (List.all_eq_true.2 fun f hf => by have := o5' f hf; simp; omega)]) (.inl rfl)
  have c5 : ∀ st h,opV G st h (.call Fn.q46) (some [.sl (touchRows p.tree),.str p.name]) = some (.tup [.sl (touchRows (mountE p.name p.tree).1),.int .i64 (mountE p.name p.tree).2],h) := fun st h => op_call hM (us := [.sl (touchRows p.tree),.str p.name]) rfl (by
   simp only [F_mount,dec_touchRows]
   rw [if_pos ⟨o1,List.all_eq_true.2 fun f hf => by have := o5' f hf; simpa using this⟩]) (.inr rfl)
  have c6 : ∀ st h,opV G st h (.call Fn.q58) (some [.sl (touchRows p.tree),.str p.rcp]) = some (.tup [.str (findT p.rcp p.tree).1,.bool (findT p.rcp p.tree).2],h) := fun st h => op_call hF (us := [.sl (touchRows p.tree),.str p.rcp]) rfl (by simp only [F_tfind,dec_touchRows]; rw [if_pos (by unfold big; omega)]) (.inl rfl)
  rw [distFrom] at hr
  have hpk : pkgE os p = (if (partOK p.name && partOK p.ver) = false then 2 else if os.contains p.name then 6 else if treeE p.tree ≠ 0 then 1 else if (p.tree.any fun f => !pathOK (p.name ++ 47 :: f.path)) then 2 else if (findT p.rcp p.tree).2 = false then 7 else 0) := by
   unfold pkgE; rw [findT_any]
  have ih := fun m hm hr' => r15_L0 G hN hH hT hM hF d hok hb r rest (i + 1) m (os ++ [p.name]) hxd (by omega) hm (by simp; omega) hr'
  have hlen : (os ++ [p.name]).length = os.length + 1 := by simp
  rw [hlen] at ih
  generalize hpe : pkgE os p = pe at hr hpk
  generalize hE : encStrs os = E at c3 ap ⊢
  generalize hE2 : encStrs (os ++ [p.name]) = E2 at ap ih
  refine head_go (Mc.q44_L0.eq_1) ?_
  rw [vtrunc_len (n := 1) rfl]
  have e20 : eqB 2 0 = false := rfl
  cases hpn : partOK p.name with
  | false =>
   rw [hpn] at c1 hpk
   simp only [Bool.false_and,if_true] at hpk
   subst hpk
   simp only [ne_eq,Int.reduceEq,not_false_eq_true,if_true] at hr
   subst hr
   simp [hl,ir,c1,oneC,AV.cells,setAt,cut,mkVal,pureQ,Rs.q44]
  | true =>
   rw [hpn] at c1 hpk
   cases hpv : partOK p.ver with
   | false =>
    rw [hpv] at c2 hpk
    simp only [Bool.and_false,if_true] at hpk
    subst hpk
    simp only [ne_eq,Int.reduceEq,not_false_eq_true,if_true] at hr
    subst hr
    simp [hl,ir,c1,c2,oneC,AV.cells,setAt,cut,mkVal,pureQ,Rs.q44]
   | true =>
    rw [hpv] at c2 hpk
    simp only [Bool.and_self,Bool.true_eq_false,if_false] at hpk
    cases hse : os.contains p.name with
    | true =>
     rw [hse] at c3 hpk
     simp only [if_true] at hpk
     subst hpk
     simp only [ne_eq,Int.reduceEq,not_false_eq_true,if_true] at hr
     subst hr
     simp [hl,ir,c1,c2,c3,oneC,AV.cells,setAt,cut,mkVal,pureQ,Rs.q44]
    | false =>
     rw [hse] at c3 hpk
     simp only [Bool.false_eq_true,if_false] at hpk
     by_cases hte : treeE p.tree = 0
     ·have hmc := mount_code hpn hte
      rw [hte] at c4 hpk
      simp only [ne_eq,not_true_eq_false,if_false] at hpk
      generalize (mountE p.name p.tree).1 = mt at c5
      generalize (mountE p.name p.tree).2 = mc at c5 hmc
      cases hpa : p.tree.any fun f => !pathOK (p.name ++ 47 :: f.path) with
      | true =>
       rw [hpa] at hmc hpk
       simp only [if_true] at hpk hmc
       subst hpk; subst hmc
       simp only [ne_eq,Int.reduceEq,not_false_eq_true,if_true] at hr
       subst hr
       simp [hl,ir,c1,c2,c3,c4,c5,ap,e20,ownsL,owns,viewL,view,sizesOk,onesOk,oneC,AV.cells,setAt,cut,mkVal,pureQ,Rs.q44]
      | false =>
       rw [hpa] at hmc hpk
       simp only [Bool.false_eq_true,if_false] at hpk hmc
       subst hmc
       cases hfi : (findT p.rcp p.tree).2 with
       | false =>
        rw [hfi] at c6 hpk
        simp only [if_true] at hpk
        subst hpk
        simp only [ne_eq,Int.reduceEq,not_false_eq_true,if_true] at hr
        subst hr
        simp [hl,ir,c1,c2,c3,c4,c5,c6,ap,ownsL,owns,viewL,view,sizesOk,onesOk,oneC,AV.cells,setAt,cut,mkVal,pureQ,Rs.q44]
       | true =>
        rw [hfi] at c6 hpk
        simp only [Bool.true_eq_false,if_false] at hpk
        subst hpk
        simp only [ne_eq,not_true_eq_false,if_false] at hr
        have wn : IntKind.i64.wrap ((n : Int) + (p.tree.length : Int)) = ((n + p.tree.length : Nat) : Int) := by rw [i64_in _ ⟨by omega,by omega⟩]; omega
        by_cases hbg : 64 < n + p.tree.length
        ·rw [if_pos hbg] at hr
         subst hr
         have q : ltB 64 ((n + p.tree.length : Nat) : Int) = true := ltB_iff.2 (by omega)
         generalize n + p.tree.length = M at wn q
         simp [hl,ir,c1,c2,c3,c4,c5,c6,ap,wn,q,lenAV,ownsL,owns,viewL,view,sizesOk,onesOk,oneC,AV.cells,setAt,cut,mkVal,pureQ,Rs.q44]
        ·rw [if_neg hbg] at hr
         have q : ltB 64 ((n + p.tree.length : Nat) : Int) = false := ltB_not.2 (by omega)
         have ih2 := ih (n + p.tree.length) (by omega) hr
         generalize n + p.tree.length = M at wn q ih2
         simp [hl,ir,c1,c2,c3,c4,c5,c6,ap,wn,wi,q,lenAV,ownsL,owns,viewL,view,sizesOk,onesOk,oneC,AV.cells,setAt,cut,mkVal]
         refine head_of ?_
         simpa [junkAll,trunc,lowFr,low,lowH] using ih2
     ·have q : eqB (treeE p.tree) 0 = false := eqB_not.2 hte
      rw [if_pos hte] at hpk
      subst hpk
      simp only [ne_eq,Int.reduceEq,not_false_eq_true,if_true] at hr
      subst hr
      simp [hl,ir,c1,c2,c3,c4,ap,q,ownsL,owns,viewL,view,sizesOk,onesOk,oneC,AV.cells,setAt,cut,mkVal,pureQ,Rs.q44]
theorem r15_ok {G : Gam} (hN : G Fn.q57 = some (.pure F_name)) (hH : G Fn.q61 = some (.pure F_ContainsS)) (hT : G Fn.q45 = some (.pure F_treeCheck)) (hM : G Fn.q46 = some (.pure F_mount)) (hF : G Fn.q58 = some (.pure F_tfind)) :
  ∀ args r,F_distE args = some r → wpM G Mc.q44 (pureQ Rs.q44 r) [] (frInit Ks.q44 args) [] := by
 intro args r hF0
 unfold F_distE at hF0
 split at hF0
 ·rename_i rows
  split at hF0
  ·rename_i d hdec
   split at hF0
   ·rename_i hok
    injection hF0 with hF0; subst hF0
    obtain rfl : rows = distRows d := decAll_of (fun r x => decPkg_of) hdec
    simp only [okDist,Bool.and_eq_true,decide_eq_true_eq] at hok
    rw [wpM_go]
    by_cases hb : 16 < d.length
    ·have q : ltB 16 (d.length : Int) = true := ltB_iff.2 (by omega)
     have e : distE d = 10 := by unfold distE; rw [if_pos hb]
     rw [e]
     simp [Mc.q44,frInit,Ks.q44,q,pureQ,Rs.q44]
    ·have q : ltB 16 (d.length : Int) = false := ltB_not.2 (by omega)
     have ih := r15_L0 G hN hH hT hM hF d (List.all_eq_true.1 hok.2) (by omega) (distE d) d 0 0 [] rfl (by omega) (by omega) rfl (by unfold distE; rw [if_neg hb])
     simp [Mc.q44,frInit,Ks.q44,q]
     simpa [encStrs] using ih
   ·cases hF0
  ·cases hF0
 ·cases hF0
end Go.Proofs.YtopiadllkglamaaGreatDoor
namespace Go.Proofs.YtopiadllkglamaaGreatDoor
open Go.RowKit Go.IntWalk
def F_CutPrefix : List AV → Option AV
 | [.str s,.str p] => if s.length < big then some (.tup [.str (if p.isPrefixOf s then s.drop p.length else s),.bool (p.isPrefixOf s)]) else none
 | _ => none
theorem cutPrefixL_ok {G : Gam} (hH : G Fn.q20 = some (.pure F_HasPrefix)) : ∀ args r,F_CutPrefix args = some r → wpM G Mc.q19 (pureQ Rs.q19 r) [] (frInit Ks.q19 args) [] := by
 intro args r hF
 unfold F_CutPrefix at hF
 split at hF
 ·rename_i s p
  split at hF
  ·rename_i hb
   injection hF with hF; subst hF
   have c1 : ∀ st h,opV G st h (.call Fn.q20) (some [.str s,.str p]) = some (.bool (p.isPrefixOf s),h) := fun st h => op_call hH (us := [.str s,.str p]) rfl rfl (.inl rfl)
   rw [wpM_go]
   cases hp : p.isPrefixOf s with
   | false =>
    rw [hp] at c1
    simp [Mc.q19,frInit,Ks.q19,c1,pureQ,Rs.q19]
   | true =>
    rw [hp] at c1
    have hl : p.length ≤ s.length := (List.isPrefixOf_iff_prefix.1 hp).length_le
    have sl : ∀ st h,opV G st h (.slc none true false false) (some [.str s,.int .i64 p.length]) = some (.str (s.drop p.length),h) := fun st h => slc_lo (k := p.length) rfl hl
    simp [Mc.q19,frInit,Ks.q19,c1,lenAV,sl,pureQ,Rs.q19]
  ·cases hF
 ·cases hF
theorem cutPrefix_ok {G : Gam} (hC : G Fn.q19 = some (.pure F_CutPrefix)) : ∀ args r,F_CutPrefix args = some r → wpM G Mc.q38 (pureQ Rs.q38 r) [] (frInit Ks.q38 args) [] := by
 intro args r hF
 have hF' := hF
 unfold F_CutPrefix at hF'
 split at hF'
 ·rename_i s p
  split at hF'
  ·injection hF' with e; subst e
   have c1 : ∀ st h,opV G st h (.call Fn.q19) (some [.str s,.str p]) = some (.tup [.str (if p.isPrefixOf s then s.drop p.length else s),.bool (p.isPrefixOf s)],h) := fun st h => op_call hC (us := [.str s,.str p]) rfl hF (.inl rfl)
   generalize (if p.isPrefixOf s then s.drop p.length else s) = x at c1 ⊢
   generalize p.isPrefixOf s = b at c1 ⊢
   rw [wpM_go]
   simp [Mc.q38,frInit,Ks.q38,c1,pureQ,Rs.q38]
  ·cases hF'
 ·cases hF'
def F_join1 : List AV → Heap → Option AV
 | [.sl rows],_ => some (.bool (!eqB rows.length 3))
 | _,_ => none
theorem join1_ok {G : Gam} : ∀ args h r,F_join1 args h = some r → wpM G Mc.q64 (lookQ Rs.q64 r h) [] (frInit Ks.q64 args) h := by
 intro args h r hF
 unfold F_join1 at hF
 split at hF
 ·rename_i rows
  injection hF with hF; subst hF
  rw [wpM_go]
  simp [Mc.q64,frInit,Ks.q64,lookQ,Rs.q64]
 ·cases hF
end Go.Proofs.YtopiadllkglamaaGreatDoor
namespace Go.Proofs.YtopiadllkglamaaGreatDoor
open Go.RowKit Go.IntWalk
instance : DecidableEq Pkg := fun a b => decidable_of_iff (a.name = b.name ∧ a.ver = b.ver ∧ a.rcp = b.rcp ∧ a.tree = b.tree) (by cases a; cases b; simp)
def F_sameD : List AV → Option AV
 | [.sl a,.sl b] => match decAll decPkg a,decAll decPkg b with
  | some s,some t => if s = t ∧ s.length < big ∧ (s.all fun p => decide (p.tree.length < big)) = true then some (.bool true) else none
  | _,_ => none
 | _ => none
theorem sameD_L0 (G : Gam) (hS : G Fn.q54 = some (.pure F_Same03)) (d : List Pkg) (hb : d.length < big) (ht : ∀ p ∈ d,p.tree.length < big) : ∀ (rest : List Pkg) (i : Nat),d.drop i = rest → i ≤ d.length →
  headM G [] Mc.q22_L0 0 [.blk 0,.seq (.seq (.reg [⟨none,some 4,true,.mv,[.c (.bool true)]⟩]) .ret)] (pureQ Rs.q22 (.bool true))
   [(0,.sl (distRows d)),(1,.sl (distRows d)),(4,.bool false),(5,.int .i64 i)] []
 | [],i,hd,hi => by
  have hi2 := drop_nil hd
  have hl : ltB (i : Int) (d.length : Int) = false := ltB_not.2 (by omega)
  refine head_go (Mc.q22_L0.eq_1) ?_
  rw [vtrunc_len (n := 0) rfl]
  simp [hl,pureQ,Rs.q22]
 | p :: rest,i,hd,hi => by
  obtain ⟨hlt,hx,hxd⟩ := drop_cons hd
  have hl : ltB (i : Int) (d.length : Int) = true := ltB_iff.2 (by omega)
  have wi : IntKind.i64.wrap ((i : Int) + 1) = (i : Int) + 1 := wrap1 (by unfold big at hb ⊢; omega)
  have ia : ∀ h,iadrAV 4 h (.sl (distRows d)) (.int .i64 i) = some (.fptr [.str p.name,.str p.ver,.str p.rcp,.sl (touchRows p.tree)] 0) := fun h => iadr_sl (distRows_get hx) rfl
  have c1 : ∀ st h,opV G st h (.call Fn.q54) (some [.sl (touchRows p.tree),.sl (touchRows p.tree)]) = some (.bool true,h) := fun st h => op_call hS (us := [.sl (touchRows p.tree),.sl (touchRows p.tree)]) rfl (by simp [F_Same03,ht p (List.mem_of_getElem? hx)]) (.inl rfl)
  have ih := sameD_L0 G hS d hb ht rest (i + 1) hxd (by omega)
  refine head_go (Mc.q22_L0.eq_1) ?_
  rw [vtrunc_len (n := 0) rfl]
  simp [hl,ia,cut,strBin,c1,wi]
  refine head_of ?_
  simpa [vtrunc_len (n := 0) (show ([] : Heap).length = 0 from rfl)] using ih
theorem sameD_ok {G : Gam} (hS : G Fn.q54 = some (.pure F_Same03)) : ∀ args r,F_sameD args = some r → wpM G Mc.q22 (pureQ Rs.q22 r) [] (frInit Ks.q22 args) [] := by
 intro args r hF
 unfold F_sameD at hF
 split at hF
 ·rename_i a b
  split at hF
  ·rename_i s t h1 h2
   split at hF
   ·rename_i hc
    obtain ⟨rfl,hb,ht⟩ := hc
    injection hF with hF; subst hF
    obtain rfl : a = distRows s := decAll_of (fun r x => decPkg_of) h1
    obtain rfl : b = distRows s := decAll_of (fun r x => decPkg_of) h2
    have ih := sameD_L0 G hS s hb (fun p hp => by simpa using List.all_eq_true.1 ht p hp) s 0 rfl (by omega)
    rw [wpM_go]
    simp [Mc.q22,frInit,Ks.q22]
    simpa using ih
   ·cases hF
  ·cases hF
 ·cases hF
theorem fewT_small {n m : Int} {t : List Touch} (h : fewT n m t = true) (_hm : 0 ≤ m) : (t.length : Int) ≤ n ∧ ∀ f ∈ t,f.path.length ≤ 300 ∧ (f.dig.length : Int) ≤ m := by
 unfold fewT at h
 split at h
 ·cases h
 ·have key : ∀ (l : List Touch) (k : Int),0 ≤ k → fewFrom m l k = true → ∀ f ∈ l,f.path.length ≤ 300 ∧ (f.dig.length : Int) ≤ m := by
   intro l
   induction l with
   | nil => intro _ _ _ f hf; cases hf
   | cons g r ih =>
    intro k hk hg f hf
    rw [fewFrom] at hg
    split at hg
    ·cases hg
    ·rename_i q1
     split at hg
     ·cases hg
     ·rename_i q2
      rcases List.mem_cons.1 hf with rfl | hf
      ·exact ⟨by omega,by omega⟩
      ·exact ih (k + g.dig.length) (by omega) hg f hf
  exact ⟨by omega,key t 0 (by omega) h⟩
end Go.Proofs.YtopiadllkglamaaGreatDoor
