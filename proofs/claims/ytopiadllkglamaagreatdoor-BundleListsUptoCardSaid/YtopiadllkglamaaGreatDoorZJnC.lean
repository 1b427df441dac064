/- bundle.Join: a package's files. bundle.Join: each row. bundle.Join. -/
import Derived.Test.YtopiadllkglamaaGreatDoorZJnB
import Derived.Test.YtopiadllkglamaaGreatDoorZRdB
namespace Go.Proofs.YtopiadllkglamaaGreatDoor
open Go.RowKit Go.IntWalk
abbrev jh (D : List (List AV)) (k : Nat) (a b c : Bs) (x : AV) (tl : Heap) : Heap := .arr 4 0 [] true :: .arr 4 k D true :: .cells [.str a,.str b,.str c,x] :: tl
inductive OT (fs : List Touch) (x : AV) (tl : Heap) : Prop
 | nil (h1 : fs = []) (h2 : x = .nils)
 | own (m v : Nat) (h0 : fs ≠ []) (h1 : x = .own (m + 3) v fs.length) (h2 : tl[m]? = some (.arr 2 v (touchRows fs) true))
theorem OT.app {fs : List Touch} {x : AV} {tl : Heap} (o : OT fs x tl) (y : Blk) : OT fs x (tl ++ [y]) := by
 rcases o with ⟨h1,h2⟩ | ⟨m,v,h0,h1,h2⟩
 ·exact .nil h1 h2
 ·exact .own m v h0 h1 (by rw [List.getElem?_append_left (List.getElem?_eq_some_iff.1 h2).1]; exact h2)
theorem trunc_jh {D : List (List AV)} {k : Nat} {a b c : Bs} {x : AV} {fs : List Touch} {tl : Heap} (o : OT fs x tl) (fr : List (Nat × AV)) : ∃ tl',trunc 3 fr (jh D k a b c x tl) = jh D k a b c x tl' ∧ OT fs x tl' := by
 rcases o with ⟨h1,h2⟩ | ⟨m,v,h0,h1,h2⟩
 ·unfold trunc
  split
  ·exact ⟨[],rfl,.nil h1 h2⟩
  ·exact ⟨tl,rfl,.nil h1 h2⟩
 ·refine ⟨tl,?_,.own m v h0 h1 h2⟩
  unfold trunc
  rw [if_neg]
  subst h1
  simp [lowH,lowB,low,lowL]
section
variable {G : Gam} {D : List (List AV)} {k : Nat} {a b c : Bs} {x : AV} {tl : Heap}
theorem jh_alloc (st : Bool) : opV G st (jh D k a b c x tl) (.alloc [.str [],.str []]) (some []) = some (.ptr (tl.length + 3) 0,jh D k a b c x (tl ++ [.cells [.str [],.str []]])) := by
 rw [op_alloc]; rfl
theorem jh_last (y : Blk) : (jh D k a b c x (tl ++ [y]))[tl.length + 3]? = some y := by simp [jh]
theorem jh_st (st : Bool) (p q : Bs) : opV G st (jh D k a b c x (tl ++ [.cells [.str [],.str []]])) (.st 2) (some [.ptr (tl.length + 3) 0,.agg [.str p,.str q]]) = some (.junk,jh D k a b c x (tl ++ [.cells [.str p,.str q]])) := by
 rw [op_st]
 simp [oneC,setAt,AV.cells,jh]
theorem jh_l0 (p q : Bs) : loadAV 1 false (jh D k a b c x (tl ++ [.cells [.str p,.str q]])) (.ptr (tl.length + 3) 0) = some (.str p) := ld_cell (vs := [.str p,.str q]) (jh_last _) rfl
theorem jh_l1 (p q : Bs) : loadAV 1 false (jh D k a b c x (tl ++ [.cells [.str p,.str q]])) (.ptr (tl.length + 3) 1) = some (.str q) := ld_cell (vs := [.str p,.str q]) (jh_last _) rfl
theorem jh_name (T : Heap) : loadAV 1 false (jh D k a b c x T) (.ptr 2 0) = some (.str a) := rfl
theorem jh_tree (T : Heap) : loadAV 1 false (jh D k a b c x T) (.ptr 2 3) = some x := rfl
theorem jo_l0 (st : Bool) (p q : Bs) : opV G st (jh D k a b c x (tl ++ [.cells [.str p,.str q]])) (.ld 1 false) (some [.ptr (tl.length + 3) 0]) = some (.str p,jh D k a b c x (tl ++ [.cells [.str p,.str q]])) := by rw [op_ld,jh_l0]; rfl
theorem jo_l1 (st : Bool) (p q : Bs) : opV G st (jh D k a b c x (tl ++ [.cells [.str p,.str q]])) (.ld 1 false) (some [.ptr (tl.length + 3) 1]) = some (.str q,jh D k a b c x (tl ++ [.cells [.str p,.str q]])) := by rw [op_ld,jh_l1]; rfl
theorem jo_name (st : Bool) (T : Heap) : opV G st (jh D k a b c x T) (.ld 1 false) (some [.ptr 2 0]) = some (.str a,jh D k a b c x T) := by rw [op_ld,jh_name]; rfl
theorem jo_tree (st : Bool) (T : Heap) : opV G st (jh D k a b c x T) (.ld 1 false) (some [.ptr 2 3]) = some (x,jh D k a b c x T) := by rw [op_ld,jh_tree]; rfl
theorem app_nils2 {s : Bool} {h : Heap} {w : AV} {rows : List (List AV)} (hx : rowsOf h w = some rows) (hs : sizesOk 2 rows = true) (hne : rows ≠ []) (h1 : rows.length * 32 ≤ byteMax) (h2 : rows.length ≤ byteMax) :
  opV G s h (.app false 2 32) (some [.nils,w]) = some (.own h.length 0 rows.length,h ++ [.arr 2 0 rows true]) := by
 rw [opV_eff rfl]
 simp only [evalEff,appRows,Bool.false_eq_true,if_false,hx,hs,if_true,appAV]
 rw [if_neg hne,if_pos ⟨h1,h2⟩]
theorem jh_app {fs : List Touch} (o : OT fs x tl) (g : Touch) (hb : fs.length ≤ 1000000) (st : Bool := false) : ∃ x2 T2,opV G st (jh D k a b c x tl) (.app false 2 32) (some [x,.tsl [[.str g.path,.str g.dig]]]) = some (x2,jh D k a b c x T2) ∧ OT (fs ++ [g]) x2 T2 := by
 rcases o with ⟨h1,h2⟩ | ⟨m,v,h0,h1,h2⟩
 ·subst h1 h2
  refine ⟨_,tl ++ [.arr 2 0 [[.str g.path,.str g.dig]] true],app_nils2 (rows := [[.str g.path,.str g.dig]]) rfl rfl (by simp) (by simp [byteMax]) (by simp [byteMax]),?_⟩
  exact .own tl.length 0 (by simp) rfl (by simp [touchRows,Touch.row])
 ·subst h1
  have hl : (jh D k a b c (.own (m + 3) v fs.length) tl)[m + 3]? = some (.arr 2 v (touchRows fs) true) := by simpa [jh] using h2
  have e := op_app (G := G) (s := st) (b := 32) (x := .tsl [[.str g.path,.str g.dig]]) (new := [[.str g.path,.str g.dig]]) rfl hl (k := fs.length) (by simp) rfl (by simp) (by simp only [List.length_singleton,byteMax]; omega) (by simp only [List.length_singleton,byteMax]; omega)
  refine ⟨_,tl.set m (.arr 2 (v + 1) (touchRows (fs ++ [g])) true),by simpa [jh,touchRows,Touch.row] using e,?_⟩
  have hm : m < tl.length := (List.getElem?_eq_some_iff.1 h2).1
  exact .own m (v + 1) (by simp) (by simp) (by simp [hm])
theorem jh_put {x2 : AV} (T : Heap) (h1 : oneC x2 = true) (h2 : x2.cells = [x2]) (st : Bool := false) : opV G st (jh D k a b c x T) (.st 1) (some [.ptr 2 3,x2]) = some (.junk,jh D k a b c x2 T) := by
 rw [op_st]
 simp [jh,h2,h1,setAt]
end
theorem OT.one {fs : List Touch} {x : AV} {tl : Heap} (o : OT fs x tl) : oneC x = true ∧ x.cells = [x] := by
 rcases o with ⟨h1,h2⟩ | ⟨m,v,h0,h1,h2⟩
 ·subst h2; exact ⟨rfl,rfl⟩
 ·subst h1; exact ⟨rfl,rfl⟩
abbrev jfr (text : Bs) (S L : List (List AV)) (k used : Nat) (w : List (List AV)) (nl i : Nat) (e14 e15 e16 : AV) (ns j : Nat) : List (Nat × AV) :=
 [(0,.str text),(1,.sl S),(4,.own 0 0 0),(5,.int .i64 0),(6,.sl L),(7,.bool true),(8,.own 1 k k),(9,.int .i64 used),(11,.sl w),(12,.ptr 2 0),(14,e14),(15,e15),(16,e16),(31,.sl L),(32,.int .i64 nl),(33,.int .i64 i),(47,.sl S),(48,.int .i64 ns),(49,.int .i64 j)]
theorem join_L1 (G : Gam) (hC : G Fn.q38 = some (.pure F_CutPrefix)) (t : List Touch) (hb : t.length ≤ 1000) (ht : ∀ f ∈ t,f.path.length ≤ 1000000) (text : Bs) (L D : List (List AV)) (k nl i : Nat) (w : List (List AV)) (a b c : Bs) (ha : a.length ≤ 1000000) {ks : List MK} {Q : MPost} (used0 : Nat) (hu0 : used0 ≤ 2000000000)
  (hk : ∀ env x T,OT (t.filterMap (stripP a)) x T → exM G .normal ks Q env (jfr text (touchRows t) L k (used0 + (t.filterMap (stripP a)).length) w nl i .junk .junk .junk t.length t.length) (jh D k a b c x T)) :
  ∀ (rest : List Touch) (j : Nat) (e14 e15 e16 x : AV) (fs : List Touch) (tl : Heap),t.drop j = rest → j ≤ t.length → OT fs x tl → fs.length ≤ j → t.filterMap (stripP a) = fs ++ rest.filterMap (stripP a) →
  headM G [14,15,16] Mc.bundle_Join_L1 3 (.blk 2 :: ks) Q (jfr text (touchRows t) L k (used0 + fs.length) w nl i e14 e15 e16 t.length j) (jh D k a b c x tl)
 | [],j,e14,e15,e16,x,fs,tl,hd,hj,o,hf,he => by
  have hi2 := drop_nil hd
  obtain rfl : j = t.length := by omega
  have hl : ltB (t.length : Int) (t.length : Int) = false := ltB_not.2 (by omega)
  simp only [List.filterMap_nil,List.append_nil] at he
  refine head_go (Mc.bundle_Join_L1.eq_1) ?_
  obtain ⟨tl',e,o'⟩ := trunc_jh (D := D) (k := k) (a := a) (b := b) (c := c) o (junkAll [14,15,16] (jfr text (touchRows t) L k (used0 + fs.length) w nl i e14 e15 e16 t.length t.length))
  rw [e]
  rw [he] at hk
  have hk' := fun env => hk env x tl' o'
  generalize used0 + fs.length = U at hk' ⊢
  simp
  exact hk' _
 | f :: rest,j,e14,e15,e16,x,fs,tl,hd,hj,o,hf,he => by
  obtain ⟨hlt,hx,hxd⟩ := drop_cons hd
  have hl : ltB (j : Int) (t.length : Int) = true := ltB_iff.2 (by omega)
  have wi : IntKind.i64.wrap ((j : Int) + 1) = (j : Int) + 1 := wrap1 (by unfold big; omega)
  have wu : IntKind.i64.wrap (((used0 + fs.length : Nat) : Int) + 1) = ((used0 + fs.length : Nat) : Int) + 1 := wrap1 (by unfold big; omega)
  have hrow := touchRows_get hx
  have hfl := ht f (List.mem_of_getElem? hx)
  have ir : ∀ st h,opV G st h (.iadr 2) (some [.sl (touchRows t),.int .i64 j]) = some (.fptr [.str f.path,.str f.dig] 0,h) := fun st h => by
   rw [opV_quiet rfl]; simp [evalPure,iadrAV,hrow]
  have a1 : binAV .add (.str a) (.str [47]) = some (.str (a ++ [47])) := by simp only [binAV,strBin]; rw [if_pos (by simp [strMax]; omega)]
  have sm : a.length + ([47] : Bs).length ≤ strMax := by simp only [List.length_singleton,strMax]; omega
  have sm2 : a.length + 1 ≤ strMax := by simp only [strMax]; omega
  have cp : ∀ st h,opV G st h (.call Fn.q38) (some [.str f.path,.str (a ++ [47])]) = some (.tup [.str (if (a ++ [47]).isPrefixOf f.path then f.path.drop (a ++ [47]).length else f.path),.bool ((a ++ [47]).isPrefixOf f.path)],h) := fun st h => op_call hC (us := [.str f.path,.str (a ++ [47])]) rfl (by simp only [F_CutPrefix]; rw [if_pos (by unfold big; omega)]) (.inl rfl)
  refine head_go (Mc.bundle_Join_L1.eq_1) ?_
  obtain ⟨tl',e,o'⟩ := trunc_jh (D := D) (k := k) (a := a) (b := b) (c := c) o (junkAll [14,15,16] (jfr text (touchRows t) L k (used0 + fs.length) w nl i e14 e15 e16 t.length j))
  rw [e]
  clear e
  have o2 := o'.app (.cells [.str f.path,.str f.dig])
  have ih := join_L1 G hC t hb ht text L D k nl i w a b c ha used0 hu0 hk rest (j + 1)
  have m1 : mkVal true 2 [AV.str f.path,AV.str f.dig] = some (.agg [.str f.path,.str f.dig]) := rfl
  have lf : ∀ st h,opV G st h (.ld 2 true) (some [.fptr [.str f.path,.str f.dig] 0]) = some (.agg [.str f.path,.str f.dig],h) := fun st h => by rw [op_ld,load_fptr]; rfl
  cases hp : (a ++ [47]).isPrefixOf f.path with
  | false =>
   rw [hp] at cp
   have hs : stripP a f = none := by unfold stripP; rw [hp]; rfl
   have ih2 := fun y => ih y (.str f.path) (.bool false) x fs _ hxd (by omega) o2 (by omega) (by rw [he]; simp [hs])
   generalize used0 + fs.length = U at ih2 wu ⊢
   simp [hl,ir,lf,jh_alloc,jh_st,jo_l0,jo_name,a1,cp,wi,-List.length_append,-op_alloc,-op_st,-op_ld]
   simpa [jfr] using ih2 _
  | true =>
   rw [hp] at cp
   have hdl : f.path.drop (a ++ [47]).length = f.path.drop (a.length + 1) := by simp
   simp only [if_true] at cp
   rw [hdl] at cp
   have hs : stripP a f = some ⟨f.path.drop (a.length + 1),f.dig⟩ := by unfold stripP; rw [if_pos hp]
   obtain ⟨x2,T2,ap,o3⟩ := jh_app (G := G) (D := D) (k := k) (a := a) (b := b) (c := c) o2 ⟨f.path.drop (a.length + 1),f.dig⟩ (by omega)
   simp only at ap
   have pt := jh_put (G := G) (D := D) (k := k) (a := a) (b := b) (c := c) (x := x) T2 o3.one.1 o3.one.2
   have ih2 := fun y z => ih y z (.bool true) x2 (fs ++ [⟨f.path.drop (a.length + 1),f.dig⟩]) _ hxd (by omega) o3 (by simp; omega) (by rw [he]; simp [hs])
   have hln : used0 + (fs ++ [(⟨f.path.drop (a.length + 1),f.dig⟩ : Touch)]).length = used0 + fs.length + 1 := by simp; omega
   rw [hln] at ih2
   generalize used0 + fs.length = U at ih2 wu ⊢
   generalize f.path.drop (a.length + 1) = R at cp ap ih2
   have bd : bldAV [.str [],.str []] [(0,1),(1,1)] [.str R,.str f.dig] = some [.str R,.str f.dig] := rfl
   simp [hl,ir,lf,jh_alloc,jh_st,jo_l0,jo_l1,jo_name,jo_tree,a1,cp,bd,oneC,AV.cells,ownsL,owns,viewL,view,sizesOk,onesOk,ap,pt,wu,wi,-List.length_append,-op_alloc,-op_st,-op_ld]
   simpa [jfr] using ih2 _ _
end Go.Proofs.YtopiadllkglamaaGreatDoor
namespace Go.Proofs.YtopiadllkglamaaGreatDoor
open Go.RowKit Go.IntWalk
theorem jh_frz {G : Gam} {D : List (List AV)} {k : Nat} {a b c : Bs} {x : AV} {tl : Heap} {fs : List Touch} (o : OT fs x tl) : ∃ tl',opV G false (jh D k a b c x tl) (.bsl false 4) (some [.agg [.str a,.str b,.str c,x]]) = some (.tsl [[.str a,.str b,.str c,.sl (touchRows fs)]],jh D k a b c x tl') := by
 simp only [opV,Bool.false_and,Bool.false_eq_true,if_false,evalAll,evalAO,AO.quiet,evalEff]
 rcases o with ⟨h1,h2⟩ | ⟨m,v,h0,h1,h2⟩
 ·subst h1 h2
  exact ⟨tl,rfl⟩
 ·subst h1
  have hl : (jh D k a b c (.own (m + 3) v fs.length) tl)[m + 3]? = some (.arr 2 v (touchRows fs) true) := by simpa [jh] using h2
  refine ⟨tl.set m (.arr 2 v (touchRows fs) false),?_⟩
  simp [frzL,viewL,view,rowsOf,h2,owns,ownsL,freezeAll,freeze1,AV.cells,sizesOk,onesOk,oneC,jh]
  exact List.take_of_length_le (by simp)
theorem jh_pkg {a b c : Bs} {x : AV} {D : List (List AV)} {k : Nat} {T : Heap} : loadAV 4 true (jh D k a b c x T) (.ptr 2 0) = some (.agg [.str a,.str b,.str c,x]) := by
 simp [loadAV,jh,cut,mkVal]
theorem jh_take {G : Gam} {a b c : Bs} {x : AV} {D : List (List AV)} {k : Nat} {T : Heap} (row : List AV) (hr : row.length = 4) (hk : k = D.length) (hb : k ≤ 1000000) : opV G false (jh D k a b c x T) (.app false 4 72) (some [.own 1 k k,.tsl [row]]) = some (.own 1 (k + 1) (k + 1),jh (D ++ [row]) (k + 1) a b c x T) := by
 have e := op_app (G := G) (s := false) (h := jh D k a b c x T) (n := 4) (b := 72) (l := 1) (ver := k) (k := k) (rows := D) (x := .tsl [row]) (new := [row]) rfl rfl hk (by simp [sizesOk,hr]) (by simp) (by simp only [List.length_singleton,byteMax]; omega) (by simp only [List.length_singleton,byteMax]; omega)
 simpa [jh] using e
abbrev lfr (text : Bs) (S L : List (List AV)) (k used nl i : Nat) (e11 e12 e14 e15 e16 e47 e48 e49 : AV) : List (Nat × AV) :=
 [(0,.str text),(1,.sl S),(4,.own 0 0 0),(5,.int .i64 0),(6,.sl L),(7,.bool true),(8,.own 1 k k),(9,.int .i64 used),(11,e11),(12,e12),(14,e14),(15,e15),(16,e16),(31,.sl L),(32,.int .i64 nl),(33,.int .i64 i),(47,e47),(48,e48),(49,e49)]
theorem total_take (t : List Touch) (hb : t.length ≤ 1000) : ∀ l : List (List Bs),totalD (l.map (pkgOf t)) ≤ l.length * 1000
 | [] => by simp [totalD]
 | w :: r => by
  have ih := total_take t hb r
  have : ((pkgOf t w).tree).length ≤ 1000 := Nat.le_trans (List.length_filterMap_le _ _) hb
  simp only [totalD,List.map_cons,List.sum_cons,List.length_cons] at ih ⊢
  omega
theorem join_L0 (G : Gam) (hC : G Fn.q38 = some (.pure F_CutPrefix)) (t : List Touch) (hb : t.length ≤ 1000) (ht : ∀ f ∈ t,f.path.length ≤ 1000000) (text : Bs) (l : List (List Bs)) (h3 : ∀ w ∈ l,w.length = 3) (hn : ∀ w ∈ l,(w.getD 0 []).length ≤ 1000000) (hll : l.length ≤ 1000000) {ks : List MK} {Q : MPost}
  (hk : ∀ env,exM G .normal ks Q env (lfr text (touchRows t) (l.map rowW) l.length (totalD (l.map (pkgOf t))) l.length l.length .junk .junk .junk .junk .junk .junk .junk .junk) [.arr 4 0 [] true,.arr 4 l.length (distRows (l.map (pkgOf t))) true]) :
  ∀ (rest : List (List Bs)) (i : Nat) (e11 e12 e14 e15 e16 e47 e48 e49 : AV) (tl : Heap),l.drop i = rest → i ≤ l.length →
  headM G [11,12,14,15,16,47,48,49] Mc.bundle_Join_L0 2 (.blk 0 :: ks) Q (lfr text (touchRows t) (l.map rowW) i (totalD ((l.take i).map (pkgOf t))) l.length i e11 e12 e14 e15 e16 e47 e48 e49) (.arr 4 0 [] true :: .arr 4 i (distRows ((l.take i).map (pkgOf t))) true :: tl)
 | [],i,e11,e12,e14,e15,e16,e47,e48,e49,tl,hd,hi => by
  have hi2 := drop_nil hd
  obtain rfl : i = l.length := by omega
  have hl : ltB (l.length : Int) (l.length : Int) = false := ltB_not.2 (by omega)
  refine head_go (Mc.bundle_Join_L0.eq_1) ?_
  rw [List.take_length]
  have tr : ∀ fr,lowFr 2 fr = true → trunc 2 fr (Blk.arr 4 0 [] true :: .arr 4 l.length (distRows (l.map (pkgOf t))) true :: tl) = [.arr 4 0 [] true,.arr 4 l.length (distRows (l.map (pkgOf t))) true] := fun fr hf => by
   unfold trunc
   rw [if_pos (by simp [hf,lowH,lowB])]
   rfl
  rw [tr _ (by simp [junkAll,lowFr,low])]
  simp
  exact hk _
 | w :: rest,i,e11,e12,e14,e15,e16,e47,e48,e49,tl,hd,hi => by
  obtain ⟨hlt,hx,hxd⟩ := drop_cons hd
  have hl : ltB (i : Int) (l.length : Int) = true := ltB_iff.2 (by omega)
  have wi : IntKind.i64.wrap ((i : Int) + 1) = (i : Int) + 1 := wrap1 (by unfold big; omega)
  have hw := h3 w (List.mem_of_getElem? hx)
  have hna := hn w (List.mem_of_getElem? hx)
  obtain ⟨a,b,c,rfl⟩ : ∃ a b c,w = [a,b,c] := by
   match w,hw with
   | [a,b,c],_ => exact ⟨a,b,c,rfl⟩
  simp only [List.getD_cons_zero] at hna
  have tr : ∀ fr,lowFr 2 fr = true → trunc 2 fr (Blk.arr 4 0 [] true :: .arr 4 i (distRows ((l.take i).map (pkgOf t))) true :: tl) = [.arr 4 0 [] true,.arr 4 i (distRows ((l.take i).map (pkgOf t))) true] := fun fr hf => by
   unfold trunc
   rw [if_pos (by simp [hf,lowH,lowB])]
   rfl
  have ir : ∀ st h,opV G st h (.iadr 1) (some [.sl (l.map rowW),.int .i64 i]) = some (.fptr (rowW [a,b,c]) 0,h) := fun st h => by
   rw [opV_quiet rfl]; simp [evalPure,iadrAV,hx]; rfl
  have lr : ∀ st h,opV G st h (.ld 1 false) (some [.fptr (rowW [a,b,c]) 0]) = some (.sl [[.str a],[.str b],[.str c]],h) := fun st h => by rw [op_ld,load_fptr]; rfl
  have ls : ∀ st h (s : Bs),opV G st h (.ld 1 false) (some [.fptr [.str s] 0]) = some (.str s,h) := fun st h s => by rw [op_ld,load_fptr]; rfl
  have i0 : ∀ st h,opV G st h (.iadr 1) (some [.sl [[.str a],[.str b],[.str c]],.int .i64 0]) = some (.fptr [.str a] 0,h) := fun st h => by rw [opV_quiet rfl]; rfl
  have i1 : ∀ st h,opV G st h (.iadr 1) (some [.sl [[.str a],[.str b],[.str c]],.int .i64 1]) = some (.fptr [.str b] 0,h) := fun st h => by rw [opV_quiet rfl]; rfl
  have i2 : ∀ st h,opV G st h (.iadr 1) (some [.sl [[.str a],[.str b],[.str c]],.int .i64 2]) = some (.fptr [.str c] 0,h) := fun st h => by rw [opV_quiet rfl]; rfl
  have bd : bldAV [.str [],.str [],.str [],.nils] [(0,1),(1,1),(2,1)] [.str a,.str b,.str c] = some [.str a,.str b,.str c,.nils] := rfl
  have htk : (l.take (i + 1)).map (pkgOf t) = (l.take i).map (pkgOf t) ++ [pkgOf t [a,b,c]] := by rw [List.take_add_one,hx]; simp
  have hdl : (distRows ((l.take i).map (pkgOf t))).length = i := by simp; omega
  have hu := total_take t hb (l.take i)
  have hlti : (l.take i).length = i := by simp; omega
  have ih := join_L0 G hC t hb ht text l h3 hn hll hk rest (i + 1)
  have hdn : distRows ((l.take (i + 1)).map (pkgOf t)) = distRows ((l.take i).map (pkgOf t)) ++ [[.str a,.str b,.str c,.sl (touchRows (t.filterMap (stripP a)))]] := by rw [htk]; simp [distRows,pkgOf,Pkg.row]
  have hun : totalD ((l.take (i + 1)).map (pkgOf t)) = totalD ((l.take i).map (pkgOf t)) + (t.filterMap (stripP a)).length := by rw [htk]; simp [totalD,pkgOf]
  rw [hdn,hun] at ih
  refine head_go (Mc.bundle_Join_L0.eq_1) ?_
  rw [tr _ (by simp [junkAll,lowFr,low])]
  generalize hD : distRows ((l.take i).map (pkgOf t)) = D at hdl ih ⊢
  generalize totalD ((l.take i).map (pkgOf t)) = U at hu ih ⊢
  have L1 := join_L1 G hC t hb ht text (l.map rowW) D i l.length i [[.str a],[.str b],[.str c]] a b c hna U (by omega) (ks := .seq (.reg [
  ⟨none,some 75,false,.mv,[.t 8]⟩,
  ⟨none,some 76,false,.ld 4 true,[.t 12]⟩,
  ⟨none,some 77,false,.bsl false 4,[.t 76]⟩,
  ⟨none,some 78,false,.app false 4 72,[.t 75,.t 77]⟩,
  ⟨none,some 8,true,.mv,[.t 78]⟩]) :: .blk 1 :: .seq (.reg [
  ⟨none,some 79,false,.bin .add,[.t 33,.c (.int .i64 1)]⟩,
  ⟨none,some 33,true,.mv,[.t 79]⟩]) :: .loop [11,12,14,15,16,47,48,49] Mc.bundle_Join_L0 2 :: .blk 0 :: ks) (Q := Q) (fun env x T o => by
   have ld := jh_pkg (a := a) (b := b) (c := c) (x := x) (D := D) (k := i) (T := T)
   obtain ⟨T2,fz⟩ := jh_frz (G := G) (D := D) (k := i) (a := a) (b := b) (c := c) o
   have tk := jh_take (G := G) (a := a) (b := b) (c := c) (x := x) (D := D) (k := i) (T := T2) [.str a,.str b,.str c,.sl (touchRows (t.filterMap (stripP a)))] rfl hdl.symm (by omega)
   have ol : ∀ st,opV G st (jh D i a b c x T) (.ld 4 true) (some [.ptr 2 0]) = some (.agg [.str a,.str b,.str c,x],jh D i a b c x T) := fun st => by rw [op_ld,ld]; rfl
   have ih2 := fun e12 e14 e15 e16 => ih (.sl [[.str a],[.str b],[.str c]]) e12 e14 e15 e16 (.sl (touchRows t)) (.int .i64 t.length) (.int .i64 t.length) (.cells [.str a,.str b,.str c,x] :: T2) hxd (by omega)
   generalize U + (t.filterMap (stripP a)).length = V at ih2 ⊢
   generalize touchRows (t.filterMap (stripP a)) = R at fz tk ih2
   simp [ol,fz,tk,wi,-op_ld]
   simpa [lfr] using ih2 _ _ _ _)
  simp [hl,ir,lr,ls,i0,i1,i2,bd,-op_ld,oneC,setAt,AV.cells]
  exact L1 t 0 _ _ _ _ [] _ rfl (by omega) (.nil rfl rfl) (by simp) (by simp)
end Go.Proofs.YtopiadllkglamaaGreatDoor
namespace Go.Proofs.YtopiadllkglamaaGreatDoor
open Go.RowKit Go.IntWalk
theorem okDist_join {l : List (List Bs)} {t : List Touch} (hl : l.length ≤ 1000000) (hw : ∀ w ∈ l,w ≠ [] ∧ w.length ≤ 1000000 ∧ ∀ x ∈ w,x.length ≤ 900000) (ht : t.length ≤ 1000) (hf : ∀ f ∈ t,f.path.length ≤ 1000000 ∧ f.dig.length ≤ 1000000) : okDist (l.map (pkgOf t)) = true := by
 have gd : ∀ w ∈ l,∀ i,(w.getD i []).length ≤ 900000 := fun w h i => by
  rw [List.getD_eq_getElem?_getD]
  cases e : w[i]? with
  | none => simp
  | some x => simpa using (hw w h).2.2 x (List.mem_of_getElem? e)
 unfold okDist
 simp only [Bool.and_eq_true,decide_eq_true_eq,List.length_map]
 refine ⟨by omega,List.all_eq_true.2 fun p hp => ?_⟩
 obtain ⟨w,h,rfl⟩ := List.mem_map.1 hp
 have g0 := gd w h 0
 have g1 := gd w h 1
 have g2 := gd w h 2
 have tr : ((pkgOf t w).tree).length ≤ 1000 := Nat.le_trans (List.length_filterMap_le _ _) ht
 unfold okPkg
 simp only [Bool.and_eq_true,decide_eq_true_eq]
 refine ⟨⟨⟨⟨?_,?_⟩,?_⟩,?_⟩,List.all_eq_true.2 fun f hf' => ?_⟩
 ·show (w.getD 0 []).length ≤ _; omega
 ·show (w.getD 1 []).length ≤ _; omega
 ·show (w.getD 2 []).length ≤ _; omega
 ·omega
 ·obtain ⟨g,hg,e⟩ := List.mem_filterMap.1 hf'
  have := hf g hg
  unfold stripP at e
  split at e
  ·injection e with e; subst e
   simp only [Bool.and_eq_true,decide_eq_true_eq,List.length_drop]
   omega
  ·cases e
theorem join_ok {G G0 : Gam} (hT : G Fn.tree_Check = some (.pure F_treeCheck)) (hW : G Fn.bundle_rows = some (.pure F_rows)) (hS : G Fn.q11 = some (.gen (lookF (F_ContainsFunc false 1 G0)))) (h1 : G0 Fn.q64 = some (.gen (lookF F_join1)))
  (hC : G Fn.q38 = some (.pure F_CutPrefix)) (hB : G Fn.build_Check = some (.pure F_distE)) :
  ∀ args r,F_join args = some r → wpM G Mc.bundle_Join (pureQ Rs.bundle_Join r) [] (frInit Ks.bundle_Join args) [] := by
 intro args r hF0
 unfold F_join at hF0
 split at hF0
 ·rename_i s rows
  split at hF0
  ·rename_i t hd
   split at hF0
   ·rename_i hc
    obtain ⟨hs,hb,hfs⟩ := hc
    injection hF0 with hF0; subst hF0
    obtain rfl : rows = touchRows t := decAll_of (fun r x => decTouch_of) hd
    have hf : ∀ f ∈ t,f.path.length ≤ 1000000 ∧ f.dig.length ≤ 1000000 := fun f h => by simpa using List.all_eq_true.1 hfs f h
    have c1 : ∀ st h,opV G st h (.call Fn.tree_Check) (some [.sl (touchRows t)]) = some (.int .i64 (treeE t),h) := fun st h => op_call hT (us := [.sl (touchRows t)]) rfl (by
     simp only [F_treeCheck,dec_touchRows]
     rw [if_pos (List.all_eq_true.2 fun f h => by have := hf f h; simp; omega)]) (.inl rfl)
    have c2 : ∀ h,opV G false h (.call Fn.bundle_rows) (some [.str s]) = some (resRows (rowsE s),h) := fun h => op_call hW (us := [.str s]) rfl (by simp only [F_rows]; rw [if_pos (by omega)]) (.inr rfl)
    rw [wpM_go]
    unfold joinE
    by_cases ht : treeE t = 0
    ·rw [if_neg (by simpa using ht)]
     rw [ht] at c1
     cases hr : rowsE s with
     | none =>
      rw [hr] at c2
      simp [Mc.bundle_Join,frInit,Ks.bundle_Join,c1,c2,resRows,pureQ,Rs.bundle_Join]
      rfl
     | some l =>
      rw [hr] at c2
      obtain ⟨b1,b2⟩ := rows_bound hs hr
      have c3 : ∀ h,opV G false h (.call Fn.q11) (some [.sl (l.map rowW),.fn Fn.q64 []]) = some (.bool (l.any fun w => decide (w.length ≠ 3)),h) := fun h =>
       contains_use (G0 := G0) (xs := l) (e := rowW) (val := fun w => .sl (w.map rStr.enc)) (agg := false) (n := 1) hS (by unfold big; omega) (fun w => ⟨rfl,rfl⟩) fun w _ => by
        refine ask_of ?_
        simp only [callAV,h1,lookF,F_join1]
        simp [eqB]
        omega
      simp only
      cases h3 : l.any (fun w => decide (w.length ≠ 3)) with
      | true =>
       rw [h3] at c3
       simp [Mc.bundle_Join,frInit,Ks.bundle_Join,c1,c2,c3,resRows,pureQ,Rs.bundle_Join]
       rfl
      | false =>
       rw [h3] at c3
       have hw3 : ∀ w ∈ l,w.length = 3 := fun w h => by
        have := List.any_eq_false.1 h3 w h
        simpa using this
       have hn : ∀ w ∈ l,(w.getD 0 []).length ≤ 1000000 := fun w h => by
        match w,hw3 w h,b2 w h with
        | [a,b,c],_,h4 => have := h4.2.2 a (by simp); simp; omega
       simp [Mc.bundle_Join,frInit,Ks.bundle_Join,c1,c2,c3,resRows]
       refine join_L0 G hC t hb (fun f h => (hf f h).1) s l hw3 hn b1 (fun env => ?_) l 0 _ _ _ _ _ _ _ _ [] rfl (by omega)
       have ok := okDist_join b1 b2 hb hf
       have c4 : ∀ st,opV G st [.arr 4 0 [] true,.arr 4 l.length (distRows (l.map (pkgOf t))) true] (.call Fn.build_Check) (some [.own 1 l.length l.length]) = some (.int .i64 (distE (l.map (pkgOf t))),[.arr 4 0 [] true,.arr 4 l.length (distRows (l.map (pkgOf t))) true]) := fun st => op_call hB (us := [.sl (distRows (l.map (pkgOf t)))]) (by simp [viewL,view,rowsOf]; exact List.take_of_length_le (by simp)) (by simp only [F_distE,dec_distRows]; rw [if_pos ok]) (.inl rfl)
       generalize hd2 : distRows (l.map (pkgOf t)) = D at c4 ⊢
       have hD : D.length = l.length := by rw [← hd2]; simp
       by_cases e1 : distE (l.map (pkgOf t)) = 0
       ·rw [e1] at c4
        by_cases e2 : totalD (l.map (pkgOf t)) = t.length
        ·have q : eqB (t.length : Int) (t.length : Int) = true := eqB_iff.2 rfl
         rw [e2]
         simp [c4,e1,hd2,pureQ,Rs.bundle_Join,view,viewL,rowsOf]
         rw [if_pos (by omega),← hD,List.take_length]
        ·have q : eqB (totalD (l.map (pkgOf t)) : Int) (t.length : Int) = false := eqB_not.2 (by omega)
         simp [c4,e1,e2,q,pureQ,Rs.bundle_Join,view,viewL,rowsOf]
         rfl
       ·have q : eqB (distE (l.map (pkgOf t))) 0 = false := eqB_not.2 e1
        simp [c4,e1,q,pureQ,Rs.bundle_Join,view,viewL,rowsOf]
        rfl
    ·rw [if_pos (by simpa using ht)]
     have e : eqB (treeE t) 0 = false := eqB_not.2 ht
     simp [Mc.bundle_Join,frInit,Ks.bundle_Join,c1,e,pureQ,Rs.bundle_Join]
     rfl
   ·cases hF0
  ·cases hF0
 ·cases hF0
end Go.Proofs.YtopiadllkglamaaGreatDoor
