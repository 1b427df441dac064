/- licitref46.Join: a package's files. licitref46.Join: each row. licitref46.Join. -/
import Derived.Test.YtopiadllkglamaaGreatDoorJnC
namespace Go.Proofs.YtopiadllkglamaaGreatDoor
open Go.RowKit Go.IntWalk
abbrev rfr (text : Bs) (S L : List (List AV)) (k used i j : Nat) (e11 e13 e14 : AV) : List (Nat × AV) :=
 [(0,.str text),(1,.sl S),(4,.own 0 0 0),(5,.int .i64 0),(6,.sl L),(7,.bool true),(8,.own 1 k k),(9,.int .i64 used),(10,.int .i64 i),(11,e11),(12,.int .i64 j),(13,e13),(14,e14)]
theorem joinR_L1 (G : Gam) (hC : G Fn.q46 = some (.pure F_first)) (t : List Touch) (hb : t.length ≤ 1000) (ht : ∀ f ∈ t,f.path.length ≤ 1000000) (text : Bs) (L D : List (List AV)) (k i : Nat) (a b c : Bs) {ks : List MK} {Q : MPost} (used0 : Nat) (hu0 : used0 ≤ 2000000000)
  (hk : ∀ env x T,OT (t.filterMap (stripR a)) x T → exM G .normal ks Q env (rfr text (touchRows t) L k (used0 + (t.filterMap (stripR a)).length) i t.length (.ptr 2 0) .junk .junk) (jh D k a b c x T)) :
  ∀ (rest : List Touch) (j : Nat) (e13 e14 x : AV) (fs : List Touch) (tl : Heap),t.drop j = rest → j ≤ t.length → OT fs x tl → fs.length ≤ j → t.filterMap (stripR a) = fs ++ rest.filterMap (stripR a) →
  headM G [13,14] Mc.q56_L1 3 (.blk 2 :: ks) Q (rfr text (touchRows t) L k (used0 + fs.length) i j (.ptr 2 0) e13 e14) (jh D k a b c x tl)
 | [],j,e13,e14,x,fs,tl,hd,hj,o,hf,he => by
  have hi2 := drop_nil hd
  obtain rfl : j = t.length := by omega
  have hl : ltB (t.length : Int) (t.length : Int) = false := ltB_not.2 (by omega)
  simp only [List.filterMap_nil,List.append_nil] at he
  refine head_go (Mc.q56_L1.eq_1) ?_
  obtain ⟨tl',e,o'⟩ := trunc_jh (D := D) (k := k) (a := a) (b := b) (c := c) o (junkAll [13,14] (rfr text (touchRows t) L k (used0 + fs.length) i t.length (.ptr 2 0) e13 e14))
  rw [e]
  rw [he] at hk
  have hk' := fun env => hk env x tl' o'
  generalize used0 + fs.length = U at hk' ⊢
  simp [lenAV]
  exact hk' _
 | f :: rest,j,e13,e14,x,fs,tl,hd,hj,o,hf,he => by
  obtain ⟨hlt,hx,hxd⟩ := drop_cons hd
  have hl : ltB (j : Int) (t.length : Int) = true := ltB_iff.2 (by omega)
  have wi : IntKind.i64.wrap ((j : Int) + 1) = (j : Int) + 1 := wrap1 (by unfold big; omega)
  have wu : IntKind.i64.wrap (((used0 + fs.length : Nat) : Int) + 1) = ((used0 + fs.length : Nat) : Int) + 1 := wrap1 (by unfold big; omega)
  have hrow := touchRows_get hx
  have hfl := ht f (List.mem_of_getElem? hx)
  have ir : ∀ st h,opV G st h (.iadr 2) (some [.sl (touchRows t),.int .i64 j]) = some (.fptr [.str f.path,.str f.dig] 0,h) := fun st h => by
   rw [opV_quiet rfl]; simp [evalPure,iadrAV,hrow]
  have l0 : ∀ st h,opV G st h (.ld 1 false) (some [.fptr [.str f.path,.str f.dig] 0]) = some (.str f.path,h) := fun st h => by rw [op_ld,load_fptr]; rfl
  have l1 : ∀ st h,opV G st h (.ld 1 false) (some [.fptr [.str f.path,.str f.dig] 1]) = some (.str f.dig,h) := fun st h => by rw [op_ld,load_fptr]; rfl
  have cp : ∀ st h,opV G st h (.call Fn.q46) (some [.str f.path]) = some (.tup [.str (firstB f.path).1,.str (firstB f.path).2],h) := fun st h => op_call hC (us := [.str f.path]) rfl (by simp only [F_first]; rw [if_pos hfl]) (.inl rfl)
  refine head_go (Mc.q56_L1.eq_1) ?_
  obtain ⟨tl',e,o'⟩ := trunc_jh (D := D) (k := k) (a := a) (b := b) (c := c) o (junkAll [13,14] (rfr text (touchRows t) L k (used0 + fs.length) i j (.ptr 2 0) e13 e14))
  rw [e]
  clear e
  have ih := joinR_L1 G hC t hb ht text L D k i a b c used0 hu0 hk rest (j + 1)
  by_cases hp : (firstB f.path).1 = a ∧ (firstB f.path).2 ≠ []
  ·have hs : stripR a f = some ⟨(firstB f.path).2,f.dig⟩ := by unfold stripR; rw [if_pos hp]
   obtain ⟨hp1,hp2⟩ := hp
   obtain ⟨x2,T2,ap,o3⟩ := jh_app (G := G) (D := D) (k := k) (a := a) (b := b) (c := c) o' ⟨(firstB f.path).2,f.dig⟩ (by omega) true
   simp only at ap
   have pt := jh_put (G := G) (D := D) (k := k) (a := a) (b := b) (c := c) (x := x) T2 o3.one.1 o3.one.2 true
   have ih2 := fun y z => ih y z x2 (fs ++ [⟨(firstB f.path).2,f.dig⟩]) _ hxd (by omega) o3 (by simp; omega) (by rw [he]; simp [hs])
   have hln : used0 + (fs ++ [(⟨(firstB f.path).2,f.dig⟩ : Touch)]).length = used0 + fs.length + 1 := by simp; omega
   rw [hln] at ih2
   generalize used0 + fs.length = U at ih2 wu ⊢
   rw [hp1] at cp
   have q1 : ((firstB f.path).2 == ([] : Bs)) = false := by simpa using hp2
   generalize (firstB f.path).2 = R at cp ap ih2 q1 hp2
   have bd : bldAV [.str [],.str []] [(0,1),(1,1)] [.str R,.str f.dig] = some [.str R,.str f.dig] := rfl
   simp [hl,lenAV,ir,l0,l1,jo_name,jo_tree,cp,bd,oneC,AV.cells,ownsL,owns,viewL,view,sizesOk,onesOk,ap,pt,wu,wi,q1,-List.length_append,-op_alloc,-op_st,-op_ld]
   simpa [rfr] using ih2 _ _
  ·have hs : stripR a f = none := by unfold stripR; rw [if_neg hp]
   have ih2 := fun y z => ih y z x fs _ hxd (by omega) o' (by omega) (by rw [he]; simp [hs])
   generalize used0 + fs.length = U at ih2 wu ⊢
   by_cases hp1 : (firstB f.path).1 = a
   ·have hp2 : (firstB f.path).2 = [] := by
     by_cases h : (firstB f.path).2 = []
     ·exact h
     ·exact absurd ⟨hp1,h⟩ hp
    rw [hp1,hp2] at cp
    simp [hl,lenAV,ir,l0,jo_name,cp,wi,-List.length_append,-op_alloc,-op_st,-op_ld]
    simpa [rfr] using ih2 _ _
   ·have q0 : ((firstB f.path).1 == a) = false := by simpa using hp1
    simp [hl,lenAV,ir,l0,jo_name,cp,wi,q0,-List.length_append,-op_alloc,-op_st,-op_ld]
    simpa [rfr] using ih2 _ _
end Go.Proofs.YtopiadllkglamaaGreatDoor
namespace Go.Proofs.YtopiadllkglamaaGreatDoor
open Go.RowKit Go.IntWalk
theorem total_takeR (t : List Touch) (hb : t.length ≤ 1000) : ∀ l : List (List Bs),totalD (l.map (pkgOfR t)) ≤ l.length * 1000
 | [] => by simp [totalD]
 | w :: r => by
  have ih := total_takeR t hb r
  have : ((pkgOfR t w).tree).length ≤ 1000 := Nat.le_trans (List.length_filterMap_le _ _) hb
  simp only [totalD,List.map_cons,List.sum_cons,List.length_cons] at ih ⊢
  omega
abbrev qfr (text : Bs) (S L : List (List AV)) (k used i : Nat) (e11 e12 e13 e14 : AV) : List (Nat × AV) :=
 [(0,.str text),(1,.sl S),(4,.own 0 0 0),(5,.int .i64 0),(6,.sl L),(7,.bool true),(8,.own 1 k k),(9,.int .i64 used),(10,.int .i64 i),(11,e11),(12,e12),(13,e13),(14,e14)]
theorem joinR_L0 (G : Gam) (hC : G Fn.q46 = some (.pure F_first)) (t : List Touch) (hb : t.length ≤ 1000) (ht : ∀ f ∈ t,f.path.length ≤ 1000000) (text : Bs) (l : List (List Bs)) (hll : l.length ≤ 1000000) (hwl : ∀ w ∈ l,w.length ≤ 1000000) {ks : List MK} {r : AV}
  (hr : ∀ w ∈ l,w.length ≠ 3 → r = .tup [.sl [],.int .i64 4])
  (hk : (∀ w ∈ l,w.length = 3) → ∀ env,exM G .normal ks (pureQ Rs.q56 r) env (qfr text (touchRows t) (l.map rowW) l.length (totalD (l.map (pkgOfR t))) l.length .junk .junk .junk .junk) [.arr 4 0 [] true,.arr 4 l.length (distRows (l.map (pkgOfR t))) true]) :
  ∀ (rest : List (List Bs)) (i : Nat) (e11 e12 e13 e14 : AV) (tl : Heap),l.drop i = rest → i ≤ l.length → (∀ w ∈ l.take i,w.length = 3) →
  headM G [11,12,13,14] Mc.q56_L0 2 (.blk 0 :: ks) (pureQ Rs.q56 r) (qfr text (touchRows t) (l.map rowW) i (totalD ((l.take i).map (pkgOfR t))) i e11 e12 e13 e14) (.arr 4 0 [] true :: .arr 4 i (distRows ((l.take i).map (pkgOfR t))) true :: tl)
 | [],i,e11,e12,e13,e14,tl,hd,hi,h3 => by
  have hi2 := drop_nil hd
  obtain rfl : i = l.length := by omega
  have hl : ltB (l.length : Int) (l.length : Int) = false := ltB_not.2 (by omega)
  refine head_go (Mc.q56_L0.eq_1) ?_
  rw [List.take_length] at h3 ⊢
  have tr : ∀ fr,lowFr 2 fr = true → trunc 2 fr (Blk.arr 4 0 [] true :: .arr 4 l.length (distRows (l.map (pkgOfR t))) true :: tl) = [.arr 4 0 [] true,.arr 4 l.length (distRows (l.map (pkgOfR t))) true] := fun fr hf => by
   unfold trunc
   rw [if_pos (by simp [hf,lowH,lowB])]
   rfl
  rw [tr _ (by simp [junkAll,lowFr,low])]
  simp [lenAV]
  exact hk h3 _
 | w :: rest,i,e11,e12,e13,e14,tl,hd,hi,h3 => by
  obtain ⟨hlt,hx,hxd⟩ := drop_cons hd
  have hl : ltB (i : Int) (l.length : Int) = true := ltB_iff.2 (by omega)
  have wi : IntKind.i64.wrap ((i : Int) + 1) = (i : Int) + 1 := wrap1 (by unfold big; omega)
  have hw := hwl w (List.mem_of_getElem? hx)
  have tr : ∀ fr,lowFr 2 fr = true → trunc 2 fr (Blk.arr 4 0 [] true :: .arr 4 i (distRows ((l.take i).map (pkgOfR t))) true :: tl) = [.arr 4 0 [] true,.arr 4 i (distRows ((l.take i).map (pkgOfR t))) true] := fun fr hf => by
   unfold trunc
   rw [if_pos (by simp [hf,lowH,lowB])]
   rfl
  have ir : ∀ st h,opV G st h (.iadr 1) (some [.sl (l.map rowW),.int .i64 i]) = some (.fptr (rowW w) 0,h) := fun st h => by
   rw [opV_quiet rfl]; simp [evalPure,iadrAV,hx]; rfl
  have lr : ∀ st h,opV G st h (.ld 1 false) (some [.fptr (rowW w) 0]) = some (.sl (w.map rStr.enc),h) := fun st h => by rw [op_ld,load_fptr]; rfl
  refine head_go (Mc.q56_L0.eq_1) ?_
  rw [tr _ (by simp [junkAll,lowFr,low])]
  by_cases hw3 : w.length = 3
  ·obtain ⟨a,b,c,rfl⟩ : ∃ a b c,w = [a,b,c] := by
    match w,hw3 with
    | [a,b,c],_ => exact ⟨a,b,c,rfl⟩
   have lr3 : ∀ st h,opV G st h (.ld 1 false) (some [.fptr (rowW [a,b,c]) 0]) = some (.sl [[.str a],[.str b],[.str c]],h) := lr
   clear lr
   have i0 : ∀ st h,opV G st h (.iadr 1) (some [.sl [[.str a],[.str b],[.str c]],.int .i64 0]) = some (.fptr [.str a] 0,h) := fun st h => by rw [opV_quiet rfl]; rfl
   have i1 : ∀ st h,opV G st h (.iadr 1) (some [.sl [[.str a],[.str b],[.str c]],.int .i64 1]) = some (.fptr [.str b] 0,h) := fun st h => by rw [opV_quiet rfl]; rfl
   have i2 : ∀ st h,opV G st h (.iadr 1) (some [.sl [[.str a],[.str b],[.str c]],.int .i64 2]) = some (.fptr [.str c] 0,h) := fun st h => by rw [opV_quiet rfl]; rfl
   have ls : ∀ st h (s : Bs),opV G st h (.ld 1 false) (some [.fptr [.str s] 0]) = some (.str s,h) := fun st h s => by rw [op_ld,load_fptr]; rfl
   have bd : bldAV [.str [],.str [],.str [],.nils] [(0,1),(1,1),(2,1)] [.str a,.str b,.str c] = some [.str a,.str b,.str c,.nils] := rfl
   have htk : (l.take (i + 1)).map (pkgOfR t) = (l.take i).map (pkgOfR t) ++ [pkgOfR t [a,b,c]] := by rw [List.take_add_one,hx]; simp
   have hdl : (distRows ((l.take i).map (pkgOfR t))).length = i := by simp; omega
   have hu := total_takeR t hb (l.take i)
   have hlti : (l.take i).length = i := by simp; omega
   have h3' : ∀ w ∈ l.take (i + 1),w.length = 3 := fun w hw => by
    rw [List.take_add_one,hx] at hw
    rcases List.mem_append.1 hw with h | h
    ·exact h3 w h
    ·simp at h; subst h; rfl
   have ih := joinR_L0 G hC t hb ht text l hll hwl hr hk rest (i + 1)
   have hdn : distRows ((l.take (i + 1)).map (pkgOfR t)) = distRows ((l.take i).map (pkgOfR t)) ++ [[.str a,.str b,.str c,.sl (touchRows (t.filterMap (stripR a)))]] := by rw [htk]; simp [distRows,pkgOfR,Pkg.row]
   have hun : totalD ((l.take (i + 1)).map (pkgOfR t)) = totalD ((l.take i).map (pkgOfR t)) + (t.filterMap (stripR a)).length := by rw [htk]; simp [totalD,pkgOfR]
   rw [hdn,hun] at ih
   generalize hD : distRows ((l.take i).map (pkgOfR t)) = D at hdl ih ⊢
   generalize totalD ((l.take i).map (pkgOfR t)) = U at hu ih ⊢
   have e3 : eqB 3 3 = true := rfl
   simp [hl,lenAV,ir,lr3,ls,i0,i1,i2,bd,-op_ld,oneC,setAt,AV.cells]
   refine joinR_L1 G hC t hb ht text (l.map rowW) D i i a b c U (by omega) (fun env x T o => ?_) t 0 _ _ _ [] _ rfl (by omega) (.nil rfl rfl) (by simp) (by simp)
   have ld := jh_pkg (a := a) (b := b) (c := c) (x := x) (D := D) (k := i) (T := T)
   obtain ⟨T2,fz⟩ := jh_frz (G := G) (D := D) (k := i) (a := a) (b := b) (c := c) o
   have tk := jh_take (G := G) (a := a) (b := b) (c := c) (x := x) (D := D) (k := i) (T := T2) [.str a,.str b,.str c,.sl (touchRows (t.filterMap (stripR a)))] rfl hdl.symm (by omega)
   have ol : ∀ st,opV G st (jh D i a b c x T) (.ld 4 true) (some [.ptr 2 0]) = some (.agg [.str a,.str b,.str c,x],jh D i a b c x T) := fun st => by rw [op_ld,ld]; rfl
   have ih2 := fun e12 => ih (.ptr 2 0) e12 .junk .junk (.cells [.str a,.str b,.str c,x] :: T2) hxd (by omega) h3'
   generalize U + (t.filterMap (stripR a)).length = V at ih2 ⊢
   generalize touchRows (t.filterMap (stripR a)) = R at fz tk ih2
   simp [ol,fz,tk,wi,-op_ld]
   simpa [qfr] using ih2 _
  ·have e3 : eqB (w.length : Int) 3 = false := eqB_not.2 (by omega)
   have hrr := hr w (List.mem_of_getElem? hx) hw3
   subst hrr
   simp [hl,lenAV,ir,lr,e3,-op_ld,pureQ,Rs.q56,view,viewL,rowsOf]
end Go.Proofs.YtopiadllkglamaaGreatDoor
namespace Go.Proofs.YtopiadllkglamaaGreatDoor
open Go.RowKit Go.IntWalk
theorem firstB_len2 : ∀ s : Bs,(firstB s).2.length ≤ s.length
 | [] => by simp [firstB]
 | b :: r => by
  have ih := firstB_len2 r
  rw [firstB]
  split
  ·simp
  ·simp only [List.length_cons]; omega
theorem okDist_joinR {l : List (List Bs)} {t : List Touch} (hl : l.length ≤ 1000000) (hw : ∀ w ∈ l,w ≠ [] ∧ w.length ≤ 1000000 ∧ ∀ x ∈ w,x.length ≤ 900000) (ht : t.length ≤ 1000) (hf : ∀ f ∈ t,f.path.length ≤ 1000000 ∧ f.dig.length ≤ 1000000) : okDist (l.map (pkgOfR t)) = true := by
 have gd : ∀ w ∈ l,∀ i,(w.getD i []).length ≤ 900000 := fun w h i => by
  rw [List.getD_eq_getElem?_getD]
  cases e : w[i]? with
  | none => simp
  | some x => simpa using (hw w h).2.2 x (List.mem_of_getElem? e)
 unfold okDist
 simp only [Bool.and_eq_true,decide_eq_true_eq,List.length_map]
 refine ⟨by omega,List.all_eq_true.2 fun p hp => ?_⟩
 obtain ⟨w,h,rfl⟩ := List.mem_map.1 hp
 have g0 := gd w h 0
 have g1 := gd w h 1
 have g2 := gd w h 2
 have tr : ((pkgOfR t w).tree).length ≤ 1000 := Nat.le_trans (List.length_filterMap_le _ _) ht
 unfold okPkg
 simp only [Bool.and_eq_true,decide_eq_true_eq]
 refine ⟨⟨⟨⟨?_,?_⟩,?_⟩,?_⟩,List.all_eq_true.2 fun f hf' => ?_⟩
 ·show (w.getD 0 []).length ≤ _; omega
 ·show (w.getD 1 []).length ≤ _; omega
 ·show (w.getD 2 []).length ≤ _; omega
 ·omega
 ·obtain ⟨g,hg,e⟩ := List.mem_filterMap.1 hf'
  have h1 := hf g hg
  have h2 := firstB_len2 g.path
  unfold stripR at e
  split at e
  ·injection e with e; subst e
   simp only [Bool.and_eq_true,decide_eq_true_eq]
   omega
  ·cases e
theorem joinR_ok {G : Gam} (hT : G Fn.q44 = some (.pure F_treeCheck)) (hW : G Fn.q45 = some (.pure F_words)) (hC : G Fn.q46 = some (.pure F_first)) (hB : G Fn.q43 = some (.pure F_distE)) :
  ∀ args r,F_join args = some r → wpM G Mc.q56 (pureQ Rs.q56 r) [] (frInit Ks.q56 args) [] := by
 intro args r hF0
 unfold F_join at hF0
 split at hF0
 ·rename_i s rows
  split at hF0
  ·rename_i t hd
   split at hF0
   ·rename_i hc
    obtain ⟨hs,hb,hfs⟩ := hc
    injection hF0 with hF0; subst hF0
    obtain rfl : rows = touchRows t := decAll_of (fun r x => decTouch_of) hd
    have hf : ∀ f ∈ t,f.path.length ≤ 1000000 ∧ f.dig.length ≤ 1000000 := fun f h => by simpa using List.all_eq_true.1 hfs f h
    have c1 : ∀ st h,opV G st h (.call Fn.q44) (some [.sl (touchRows t)]) = some (.int .i64 (treeE t),h) := fun st h => op_call hT (us := [.sl (touchRows t)]) rfl (by
     simp only [F_treeCheck,dec_touchRows]
     rw [if_pos (List.all_eq_true.2 fun f h => by have := hf f h; simp; omega)]) (.inl rfl)
    have c2 : ∀ h,opV G false h (.call Fn.q45) (some [.str s]) = some (resWords (wordsE s),h) := fun h => op_call hW (us := [.str s]) rfl (by simp only [F_words]; rw [if_pos (by omega)]) (.inr rfl)
    have hwr : rowsE s = (match wordsE s with | some (l,true) => some l | _ => none) := words_rows (splitBy 10 s)
    rw [wpM_go,join_eq]
    unfold joinR
    by_cases ht : treeE t = 0
    ·rw [if_neg (by simpa using ht)]
     rw [ht] at c1
     cases hr : wordsE s with
     | none =>
      rw [hr] at c2 hwr
      simp only at hwr
      rw [hwr]
      simp [Mc.q56,frInit,Ks.q56,c1,c2,resWords,pureQ,Rs.q56]
      rfl
     | some p =>
      obtain ⟨l,q⟩ := p
      cases q with
      | false =>
       rw [hr] at c2 hwr
       simp only at hwr
       rw [hwr]
       simp [Mc.q56,frInit,Ks.q56,c1,c2,resWords,pureQ,Rs.q56]
       rfl
      | true =>
       rw [hr] at c2 hwr
       simp only at hwr
       obtain ⟨b1,b2⟩ := rows_bound hs hwr
       rw [hwr]
       simp [Mc.q56,frInit,Ks.q56,c1,c2,resWords]
       refine joinR_L0 G hC t hb (fun f h => (hf f h).1) s l b1 (fun w h => (b2 w h).2.1) (fun w h hne => ?_) (fun hw3 env => ?_) l 0 _ _ _ _ [] rfl (by omega) (by simp)
       ·rw [if_pos ⟨w,h,hne⟩]
        rfl
       have ok := okDist_joinR b1 b2 hb hf
       have c4 : ∀ st,opV G st [.arr 4 0 [] true,.arr 4 l.length (distRows (l.map (pkgOfR t))) true] (.call Fn.q43) (some [.own 1 l.length l.length]) = some (.int .i64 (distE (l.map (pkgOfR t))),[.arr 4 0 [] true,.arr 4 l.length (distRows (l.map (pkgOfR t))) true]) := fun st => op_call hB (us := [.sl (distRows (l.map (pkgOfR t)))]) (by simp [viewL,view,rowsOf]; exact List.take_of_length_le (by simp)) (by simp only [F_distE,dec_distRows]; rw [if_pos ok]) (.inl rfl)
       have hnx : ¬ ∃ x,x ∈ l ∧ ¬ x.length = 3 := fun ⟨x,h,hne⟩ => hne (hw3 x h)
       rw [if_neg hnx]
       generalize hd2 : distRows (l.map (pkgOfR t)) = D at c4 ⊢
       have hD : D.length = l.length := by rw [← hd2]; simp
       by_cases e1 : distE (l.map (pkgOfR t)) = 0
       ·rw [e1] at c4
        by_cases e2 : totalD (l.map (pkgOfR t)) = t.length
        ·have q : eqB (t.length : Int) (t.length : Int) = true := eqB_iff.2 rfl
         rw [e2]
         simp [c4,e1,lenAV,hd2,pureQ,Rs.q56,view,viewL,rowsOf]
         rw [if_pos (by omega),← hD,List.take_length]
        ·have q : eqB (totalD (l.map (pkgOfR t)) : Int) (t.length : Int) = false := eqB_not.2 (by omega)
         simp [c4,e1,e2,q,lenAV,pureQ,Rs.q56,view,viewL,rowsOf]
         rfl
       ·have q : eqB (distE (l.map (pkgOfR t))) 0 = false := eqB_not.2 e1
        simp [c4,e1,q,pureQ,Rs.q56,view,viewL,rowsOf]
        rfl
    ·rw [if_pos (by simpa using ht)]
     have e : eqB (treeE t) 0 = false := eqB_not.2 ht
     simp [Mc.q56,frInit,Ks.q56,c1,e,pureQ,Rs.q56]
     rfl
   ·cases hF0
  ·cases hF0
 ·cases hF0
end Go.Proofs.YtopiadllkglamaaGreatDoor
