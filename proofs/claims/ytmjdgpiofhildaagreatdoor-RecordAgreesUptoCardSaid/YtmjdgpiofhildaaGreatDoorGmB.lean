/- record.Agrees: the walk. record.Agrees: the function. record.Agrees: its contract. The law RecordAgrees: the function returns true. -/
import Derived.Test.YtmjdgpiofhildaaGreatDoorGmA
import Derived.Test.YtmjdgpiofhildaaGreatDoorDmC
namespace Go.Proofs.YtmjdgpiofhildaaGreatDoor
open Go.RowKit Go.IntWalk

/-- The data that a tree has under a path: the first file's. -/
def lookT (p : Bs) : List Touch → Option Bs
  | [] => none
  | f :: t => if p = f.path then some f.dig else lookT p t
/-- The first touched file that does not agree. -/
def agree (ds : Bs → Bs) (t : List Touch) : List Touch → Option (Bs × Int)
  | [] => none
  | x :: xs => match lookT x.path t with
    | none => some (x.path, 7)
    | some d => if ds d = x.dig then agree ds t xs else some (x.path, 9)
theorem agree_append (ds : Bs → Bs) (t : List Touch) : ∀ xs ys : List Touch, agree ds t (xs ++ ys) = match agree ds t xs with | some r => some r | none => agree ds t ys
  | [], ys => rfl
  | x :: xs, ys => by
    simp only [List.cons_append, agree]
    cases lookT x.path t with
    | none => rfl
    | some d =>
      simp only
      split
      · exact agree_append ds t xs ys
      · rfl
def touches (s : Done) : List Touch := s.reads ++ [s.wrote]
def agreeR (ds : Bs → Bs) (t : List Touch) : List Done → Option (Bs × Int)
  | [] => none
  | s :: r => match agree ds t (touches s) with
    | some x => some x
    | none => agreeR ds t r
def SumsOK (ds : Bs → Bs) (t : List Touch) (m : List (Bs × Bs)) : Prop := ∀ p v, lookM p m = some v → ∃ d, lookT p t = some d ∧ v = ds d
def okData (t : List Touch) : Prop := ∀ f ∈ t, f.dig.length ≤ big
theorem lookT_mem {p d : Bs} : ∀ {t : List Touch}, lookT p t = some d → ∃ f ∈ t, f.dig = d
  | [], h => by cases h
  | f :: t, h => by
    simp only [lookT] at h
    split at h
    · injection h with h; exact ⟨f, by simp, h⟩
    · obtain ⟨g, h1, h2⟩ := lookT_mem h; exact ⟨g, by simp [h1], h2⟩

section
variable {H : Heap}
theorem trunc_app {n : Nat} {fr : List (Nat × AV)} {ext : Heap} (hn : H.length = n) (h1 : lowFr n fr = true) (h2 : lowH n H = true) : trunc n fr (H ++ ext) = H := by
  have e : (H ++ ext).take n = H := by rw [← hn, List.take_left' rfl]
  rw [trunc_low h1 (by rw [e]; exact h2), e]
theorem lowH_set {n : Nat} {b : Blk} (hb : lowB n b = true) : ∀ (h : Heap) (l : Nat), lowH n h = true → lowH n (h.set l b) = true
  | [], _, _ => rfl
  | x :: h, 0, hh => by simp only [List.set_cons_zero, lowH, Bool.and_eq_true] at hh ⊢; exact ⟨hb, hh.2⟩
  | x :: h, l + 1, hh => by simp only [List.set_cons_succ, lowH, Bool.and_eq_true] at hh ⊢; exact ⟨hh.1, lowH_set hb h l hh.2⟩
end

abbrev afr (R T e11 e13 e14 e15 e17 : AV) (nR iR : Nat) (e44 e45 e46 : AV) : List (Nat × AV) := [(0, R), (1, T), (4, .str []), (5, .int .i64 0), (6, .ptr 2 0), (7, .map 1), (9, .junk), (11, e11), (13, e13), (14, e14), (15, e15), (17, e17), (26, .junk), (32, R), (33, .int .i64 nR), (34, .int .i64 iR), (44, e44), (45, e45), (46, e46)]

theorem ag_L2 (G : Gam) (ds : Bs → Bs) (hD : ∀ st0 h d, d.length ≤ big → opV G st0 h (.call Fn.digest_Sum) (some [.str d]) = some (.str (ds d), h)) (t : List Touch) (hdat : okData t) (data : List (Bs × Bs)) (hdata : ∀ p, lookM p data = lookT p t) (R T : AV) (hR : ∀ n, low n R = true) (hT : ∀ n, low n T = true) (nR iR N : Nat) (c : List AV) (hc : ∀ n, lowL n c = true) (ts : List Touch) (hts : ts.length ≤ big) (r : AV) {ks : List MK} :
    ∀ (rest : List Touch) (j : Nat) (sums : List (Bs × Bs)) (H : Heap), ts.drop j = rest → j ≤ ts.length → SumsOK ds t sums → H.length = N → 3 ≤ N → lowH (N + 2) H = true → H[0]? = some (.map (encM eStr data)) → H[1]? = some (.map (encM eStr sums)) → H[2]? = some (.cells [.map 0]) →
    (∀ p e, agree ds t rest = some (p, e) → r = .tup [.str p, .int .i64 e]) →
    (agree ds t rest = none → ∀ env m, SumsOK ds t m → exM G .normal ks (pureQ Rs.record_Agrees r) env (afr R T (.ptr N 0) .junk .junk .junk .junk nR iR (.own (N + 1) 0 ts.length) (.int .i64 ts.length) (.int .i64 ts.length)) (H.set 1 (.map (encM eStr m)) ++ [.cells c, .arr 2 0 (touchRows ts) true])) →
    headM G [13, 14, 15, 17] Mc.record_Agrees_L2 (N + 2) (.blk 4 :: ks) (pureQ Rs.record_Agrees r) (afr R T (.ptr N 0) .junk .junk .junk .junk nR iR (.own (N + 1) 0 ts.length) (.int .i64 ts.length) (.int .i64 j)) (H ++ [.cells c, .arr 2 0 (touchRows ts) true])
  | [], j, sums, H, hd, hj, hs, hN, h3, hlo, g0, g1, g2, _, hk => by
    have hj2 := drop_nil hd
    have e : j = ts.length := by omega
    subst e
    have hk' := hk rfl [(47, .bool false)] sums hs
    rw [set_here g1] at hk'
    refine head_go (Mc.record_Agrees_L2.eq_1) ?_
    rw [trunc_len (by simp [hN])]
    simp
    simpa [touches] using hk'
  | x :: rest, j, sums, H, hd, hj, hs, hN, h3, hlo, g0, g1, g2, hr, hk => by
    obtain ⟨hj2, hx, hxd⟩ := drop_cons hd
    have hlt : ltB j ts.length = true := ltB_iff.2 (by omega)
    have hw := wrap1 (i := j) (by omega)
    subst hN
    obtain ⟨H2, hH2⟩ : ∃ H2, H2 = H ++ [Blk.cells c, .arr 2 0 (touchRows ts) true] := ⟨_, rfl⟩
    have hl2 : H2.length = H.length + 2 := by rw [hH2]; simp
    have q0 : ∀ ext : Heap, (H2 ++ ext)[0]? = some (.map (encM eStr data)) := fun ext => by rw [hH2, List.append_assoc, List.getElem?_append_left (by omega)]; exact g0
    have q1 : ∀ ext : Heap, (H2 ++ ext)[1]? = some (.map (encM eStr sums)) := fun ext => by rw [hH2, List.append_assoc, List.getElem?_append_left (by omega)]; exact g1
    have q2 : ∀ ext : Heap, (H2 ++ ext)[2]? = some (.cells [.map 0]) := fun ext => by rw [hH2, List.append_assoc, List.getElem?_append_left (by omega)]; exact g2
    have qa : H2[H.length + 1]? = some (.arr 2 0 (touchRows ts) true) := by rw [hH2, List.getElem?_append_right (by omega)]; simp
    have hrow : (touchRows ts)[j]? = some [.str x.path, .str x.dig] := touchRows_get hx
    have ia : iadrAV 2 H2 (.own (H.length + 1) 0 ts.length) (.int .i64 j) = some (.eptr (H.length + 1) 0 j 0) := iadr_own qa (by simp) hrow rfl
    have ld : loadAV 2 true H2 (.eptr (H.length + 1) 0 j 0) = some (.agg [.str x.path, .str x.dig]) := by rw [ld_eptr qa hrow]; rfl
    have hst : stAV 2 (H2 ++ [.cells [.str [], .str []]]) (.ptr H2.length 0) (.agg [.str x.path, .str x.dig]) = some (H2 ++ [.cells [.str x.path, .str x.dig]]) := by
      have := st_all (h := H2 ++ [Blk.cells [.str [], .str []]]) (l := H2.length) (n := 2) (vs := [.str [], .str []]) (us := [.str x.path, .str x.dig]) (by simp) rfl rfl (by omega) rfl
      simpa [-stAV_ptr] using this
    obtain ⟨H3, hH3⟩ : ∃ H3, H3 = H2 ++ [Blk.cells [.str x.path, .str x.dig]] := ⟨_, rfl⟩
    rw [← hH3] at hst
    have s0 : H3[0]? = some (.map (encM eStr data)) := by rw [hH3]; exact q0 _
    have s1 : H3[1]? = some (.map (encM eStr sums)) := by rw [hH3]; exact q1 _
    have s2 : loadAV 1 false H3 (.ptr 2 0) = some (.map 0) := by rw [hH3]; exact ld_one (q2 _)
    have sx : H3[H2.length]? = some (.cells [.str x.path, .str x.dig]) := by rw [hH3]; simp
    have sp0 : loadAV 1 false H3 (.ptr H2.length 0) = some (.str x.path) := ld_cell sx rfl
    have sp1 : loadAV 1 false H3 (.ptr H2.length 1) = some (.str x.dig) := ld_cell sx rfl
    have lk := fun st0 => op_look2 (G := G) (s := st0) (k := x.path) (zero := .str []) s0
    have lk1 := fun st0 => op_look2 (G := G) (s := st0) (k := x.path) (zero := .str []) s1
    rw [hdata] at lk
    refine head_go (Mc.record_Agrees_L2.eq_1) ?_
    rw [trunc_len (by simp), ← hH2]
    simp only [agree] at hr hk
    cases hlx : lookT x.path t with
    | none =>
      simp only [hlx] at hr lk
      have hr' := hr _ _ rfl
      subst hr'
      simp only [Option.map_none, Option.getD_none, Option.isSome_none] at lk
      simp [hlt, ia, ld, hst, s2, sp0, lk, Rs.record_Agrees, -loadAV, -stAV_ptr]
    | some d =>
      simp only [hlx] at hr hk lk
      simp only [Option.map_some, Option.getD_some, Option.isSome_some, eStr_enc] at lk
      have hdl : d.length ≤ big := by obtain ⟨f, h1, rfl⟩ := lookT_mem hlx; exact hdat f h1
      have hl3 : H3.length = H.length + 3 := by rw [hH3]; simp [hl2]
      have lapp : ∀ (a b : Heap), lowH (H.length + 2) (a ++ b) = (lowH (H.length + 2) a && lowH (H.length + 2) b) := fun a b => by
        induction a with
        | nil => simp [lowH]
        | cons y a ih => simp [lowH, ih, Bool.and_assoc]
      -- the back edge
      have back : ∀ (m : List (Bs × Bs)), SumsOK ds t m → ds d = x.dig → ∀ (H4 : Heap), H4 = H3.set 1 (.map (encM eStr m)) → ∀ e14 e15 e17 : AV,
          headM G [13, 14, 15, 17] Mc.record_Agrees_L2 (H.length + 2) (.blk 4 :: ks) (pureQ Rs.record_Agrees r) (afr R T (.ptr H.length 0) (.ptr H2.length 0) e14 e15 e17 nR iR (.own (H.length + 1) 0 ts.length) (.int .i64 ts.length) (.int .i64 ((j + 1 : Nat) : Int))) H4 := fun m hm he H4 hH4 e14 e15 e17 => by
        rw [if_pos he] at hr hk
        have ih := ag_L2 G ds hD t hdat data hdata R T hR hT nR iR H.length c hc ts hts r (ks := ks) rest (j + 1) m (H.set 1 (.map (encM eStr m))) hxd (by omega) hm (by simp) h3 (lowH_set rfl H 1 hlo) (by rw [List.getElem?_set_ne (by omega)]; exact g0) (by rw [List.getElem?_set_self (by omega)]) (by rw [List.getElem?_set_ne (by omega)]; exact g2) hr (fun h0 env m2 hm2 => by simpa [List.set_set] using hk h0 env m2 hm2)
        have hH4' : H4 = (H.set 1 (.map (encM eStr m)) ++ [Blk.cells c, .arr 2 0 (touchRows ts) true]) ++ [.cells [.str x.path, .str x.dig]] := by
          rw [hH4, hH3, hH2, List.append_assoc, List.set_append_left _ _ (by omega), List.append_assoc]
        refine head_of ?_
        have htr : ∀ fr, lowFr (H.length + 2) fr = true → trunc (H.length + 2) fr H4 = H.set 1 (.map (encM eStr m)) ++ [Blk.cells c, .arr 2 0 (touchRows ts) true] := fun fr hf => by
          rw [hH4']
          refine trunc_app (by simp) hf ?_
          rw [lapp, lowH_set rfl H 1 hlo]
          simp [lowH, lowB, hc]
        have hpos : 0 < H.length := by omega
        rw [htr _ (by simp [lowFr, low, hR, hT, hpos])]
        simpa using ih
      cases hls : lookM x.path sums with
      | some v =>
        obtain ⟨d', h1, rfl⟩ := hs _ _ hls
        rw [hlx] at h1; injection h1 with h1; subst h1
        have lk2 := fun st0 => op_look (G := G) (s := st0) (k := x.path) (zero := .str []) s1
        rw [hls] at lk1 lk2
        simp only [Option.map_some, Option.getD_some, Option.isSome_some, eStr_enc] at lk1 lk2
        by_cases he : ds d = x.dig
        · have bn : binAV .neq (.str (ds d)) (.str x.dig) = some (.bool false) := by simp [sc_str, strBin, he]
          have bk := back sums hs he H3 (set_here s1).symm
          simp [hlt, ia, ld, hst, s2, sp0, lk, lk1, lk2, sp1, bn, hw, -loadAV, -stAV_ptr]
          simpa using bk _ _ _
        · rw [if_neg he] at hr
          have hr' := hr _ _ rfl
          subst hr'
          have bn : binAV .neq (.str (ds d)) (.str x.dig) = some (.bool true) := by simp [sc_str, strBin, he]
          simp [hlt, ia, ld, hst, s2, sp0, lk, lk1, lk2, sp1, bn, Rs.record_Agrees, -loadAV, -stAV_ptr]
      | none =>
        have hm : SumsOK ds t (putM x.path (ds d) sums) := fun p v hv => by
          rw [lookM_put] at hv
          split at hv
          · rename_i e; subst e; injection hv with hv; exact ⟨d, hlx, hv.symm⟩
          · exact hs p v hv
        have hlm : lookM x.path (putM x.path (ds d) sums) = some (ds d) := by rw [lookM_put, if_pos rfl]
        rw [hls] at lk1
        simp only [Option.map_none, Option.getD_none, Option.isSome_none] at lk1
        have cD := fun st0 h => hD st0 h d hdl
        have mu := fun st0 => op_mapup (G := G) (s := st0) (V := eStr) (k := x.path) (v := ds d) (x := .str (ds d)) s1 rfl rfl rfl
        obtain ⟨m, hme⟩ : ∃ m, m = putM x.path (ds d) sums := ⟨_, rfl⟩
        obtain ⟨H4, hH4⟩ : ∃ H4, H4 = H3.set 1 (.map (encM eStr m)) := ⟨_, rfl⟩
        rw [← hme] at hm hlm mu
        rw [← hH4] at mu
        have t1 : H4[1]? = some (.map (encM eStr m)) := by rw [hH4, List.getElem?_set_self (by omega)]
        have tx : H4[H2.length]? = some (.cells [.str x.path, .str x.dig]) := by rw [hH4, List.getElem?_set_ne (by omega)]; exact sx
        have tp0 : loadAV 1 false H4 (.ptr H2.length 0) = some (.str x.path) := ld_cell tx rfl
        have tp1 : loadAV 1 false H4 (.ptr H2.length 1) = some (.str x.dig) := ld_cell tx rfl
        have lk2 := fun st0 => op_look (G := G) (s := st0) (k := x.path) (zero := .str []) t1
        rw [hlm] at lk2
        simp only [Option.map_some, Option.getD_some, eStr_enc] at lk2
        by_cases he : ds d = x.dig
        · have bn : binAV .neq (.str (ds d)) (.str x.dig) = some (.bool false) := by simp [sc_str, strBin, he]
          have bk := back m hm he H4 hH4
          simp [hlt, ia, ld, hst, s2, sp0, lk, lk1, cD, mu, tp0, tp1, lk2, bn, hw, -loadAV, -stAV_ptr]
          simpa using bk _ _ _
        · rw [if_neg he] at hr
          have hr' := hr _ _ rfl
          subst hr'
          have bn : binAV .neq (.str (ds d)) (.str x.dig) = some (.bool true) := by simp [sc_str, strBin, he]
          simp [hlt, ia, ld, hst, s2, sp0, lk, lk1, cD, mu, tp0, tp1, lk2, bn, Rs.record_Agrees, -loadAV, -stAV_ptr]

end Go.Proofs.YtmjdgpiofhildaaGreatDoor

namespace Go.Proofs.YtmjdgpiofhildaaGreatDoor
open Go.RowKit Go.IntWalk

theorem op_app_tsl {G : Gam} {s : Bool} {h : Heap} {n b : Nat} {x : AV} {rows new : List (List AV)} (hx : rowsOf h x = some new) (hs : sizesOk n new = true) (hs2 : sizesOk n rows = true) (hne : new ≠ []) (h1 : (rows.length + new.length) * b ≤ byteMax) (h2 : rows.length + new.length ≤ byteMax) :
    opV G s h (.app false n b) (some [.tsl rows, x]) = some (.own h.length 0 (rows.length + new.length), h ++ [.arr n 0 (rows ++ new) true]) := by
  rw [opV_eff rfl]
  simp only [evalEff, appRows, Bool.false_eq_true, if_false, hx, hs, if_true, appAV, if_neg hne]
  rw [if_pos ⟨h1, h2, hs2⟩]

def F_Clip : List AV → Option AV := fun args => (F_ClipT args).map .tsl
def okA (s : Done) : Bool := decide (s.reads.length < big)

theorem ag_L1 (G : Gam) (ds : Bs → Bs) (hD : ∀ st0 h d, d.length ≤ big → opV G st0 h (.call Fn.digest_Sum) (some [.str d]) = some (.str (ds d), h)) (hC : G Fn.slices_Clip___api_Touch_api_Touch_ = some (.pure F_Clip)) (t : List Touch) (hdat : okData t) (data : List (Bs × Bs)) (hdata : ∀ p, lookM p data = lookT p t) (T : AV) (hT : ∀ n, low n T = true) (N : Nat) (xs : List Done) (hxs : xs.length ≤ big) (hok : ∀ s ∈ xs, okA s = true) (r : AV) {ks : List MK} :
    ∀ (rest : List Done) (i : Nat) (sums : List (Bs × Bs)) (H : Heap), xs.drop i = rest → i ≤ xs.length → SumsOK ds t sums → H.length = N → 3 ≤ N → (∀ n, 3 ≤ n → lowH n H = true) → H[0]? = some (.map (encM eStr data)) → H[1]? = some (.map (encM eStr sums)) → H[2]? = some (.cells [.map 0]) →
    (∀ p e, agreeR ds t rest = some (p, e) → r = .tup [.str p, .int .i64 e]) →
    (agreeR ds t rest = none → ∀ env h, exM G .normal ks (pureQ Rs.record_Agrees r) env (afr (.sl (doneRows xs)) T .junk .junk .junk .junk .junk xs.length xs.length .junk .junk .junk) h) →
    headM G [11, 13, 14, 15, 17, 44, 45, 46] Mc.record_Agrees_L1 N (.blk 2 :: ks) (pureQ Rs.record_Agrees r) (afr (.sl (doneRows xs)) T .junk .junk .junk .junk .junk xs.length i .junk .junk .junk) H
  | [], i, sums, H, hd, hi, hs, hN, h3, hlo, g0, g1, g2, _, hk => by
    have hi2 := drop_nil hd
    have e : i = xs.length := by omega
    subst e
    have hk' := hk rfl [(35, .bool false)] H
    refine head_go (Mc.record_Agrees_L1.eq_1) ?_
    rw [trunc_len hN]
    simp
    simpa using hk'
  | s :: rest, i, sums, H, hd, hi, hs, hN, h3, hlo, g0, g1, g2, hr, hk => by
    obtain ⟨hi2, hx, hxd⟩ := drop_cons hd
    have hlt : ltB i xs.length = true := ltB_iff.2 (by omega)
    have hw := wrap1 (i := i) (by omega)
    have hokA : s.reads.length < big := by
      have := hok s (List.mem_of_getElem? hx)
      simpa [okA] using this
    subst hN
    have hrow := doneRows_get hx
    have ia := iadr_sl (h := H) (size := 6) (k := .i64) hrow (by simp [Done.row])
    have hcu : cut s.row 0 6 = s.row := cut_all (by simp [Done.row])
    have hmk : mkVal true 6 s.row = some (.agg s.row) := by simp [mkVal, Done.row]
    have hst : stAV 6 (H ++ [.cells [.int .i64 0, .int .i64 0, .int .i64 0, .nils, .str [], .str []]]) (.ptr H.length 0) (.agg s.row) = some (H ++ [.cells s.row]) := by
      have := st_all (h := H ++ [Blk.cells [.int .i64 0, .int .i64 0, .int .i64 0, .nils, .str [], .str []]]) (l := H.length) (n := 6) (vs := [.int .i64 0, .int .i64 0, .int .i64 0, .nils, .str [], .str []]) (us := s.row) (by simp) rfl (by simp [Done.row]) (by omega) (by simp [Done.row])
      simpa [-stAV_ptr] using this
    obtain ⟨H1, hH1⟩ : ∃ H1, H1 = H ++ [Blk.cells s.row] := ⟨_, rfl⟩
    rw [← hH1] at hst
    have hl1 : H1.length = H.length + 1 := by rw [hH1]; simp
    have c1 : H1[H.length]? = some (.cells s.row) := by rw [hH1]; simp
    have ld3 : loadAV 1 false H1 (.ptr H.length 3) = some (.sl (touchRows s.reads)) := ld_cell c1 rfl
    have ld4 : loadAV 2 true H1 (.ptr H.length 4) = some (.agg [.str s.wrote.path, .str s.wrote.dig]) := by
      have : cut s.row 4 2 = [.str s.wrote.path, .str s.wrote.dig] := rfl
      simp [loadAV, c1, this, mkVal]
    have hszr : sizesOk 2 (touchRows s.reads) = true := sizesOk_map (e := Touch.row) (fun _ => rfl) _
    have clip : ∀ st0, opV G st0 H1 (.call Fn.slices_Clip___api_Touch_api_Touch_) (some [.sl (touchRows s.reads)]) = some (.tsl (touchRows s.reads), H1) := fun st0 => op_call hC (us := [.sl (touchRows s.reads)]) rfl (by simp [F_Clip, F_ClipT, hszr]) (.inr rfl)
    have hte : touchRows s.reads ++ [[.str s.wrote.path, .str s.wrote.dig]] = touchRows (touches s) := by simp [touchRows, touches, Touch.row]
    have htl : (touches s).length = s.reads.length + 1 := by simp [touches]
    have ap := fun st0 => op_app_tsl (G := G) (s := st0) (h := H1) (n := 2) (b := 32) (x := .tsl [[.str s.wrote.path, .str s.wrote.dig]]) (rows := touchRows s.reads) (new := [[.str s.wrote.path, .str s.wrote.dig]]) rfl rfl hszr (by simp) (by simp; unfold big at hokA; unfold byteMax; omega) (by simp; unfold big at hokA; unfold byteMax; omega)
    simp only [hte, hl1, touchRows_len, List.length_singleton] at ap
    rw [← htl] at ap
    have hc : ∀ n, lowL n s.row = true := fun n => by simp [Done.row, lowL, low]
    have hR : ∀ n, low n (AV.sl (doneRows xs)) = true := fun n => rfl
    have hH2 : H1 ++ [.arr 2 0 (touchRows (touches s)) true] = H ++ [Blk.cells s.row, .arr 2 0 (touchRows (touches s)) true] := by rw [hH1]; simp
    rw [hH2] at ap
    simp only [agreeR] at hr hk
    have l2 := fun ks hr hk => ag_L2 G ds hD t hdat data hdata (.sl (doneRows xs)) T hR hT xs.length i H.length s.row hc (touches s) (by rw [htl]; omega) r (ks := ks) (touches s) 0 sums H rfl (by omega) hs rfl h3 (hlo _ (by omega)) g0 g1 g2 hr hk
    refine head_go (Mc.record_Agrees_L1.eq_1) ?_
    rw [trunc_len rfl]
    simp at l2
    simp [hlt, ia, hcu, hmk, hst, ld3, ld4, clip, ap, -loadAV, -stAV_ptr, ownsL, owns, viewL, view, sizesOk, onesOk, oneC]
    refine l2 _ (fun p e h => hr p e (by rw [h])) (fun h0 env m hm => ?_)
    rw [h0] at hr hk
    have hlo' : ∀ n, 3 ≤ n → lowH n (H.set 1 (.map (encM eStr m))) = true := fun n hn => lowH_set rfl H 1 (hlo n hn)
    have ih := ag_L1 G ds hD hC t hdat data hdata T hT H.length xs hxs hok r (ks := ks) rest (i + 1) m (H.set 1 (.map (encM eStr m))) hxd (by omega) hm (by simp) h3 hlo' (by rw [List.getElem?_set_ne (by omega)]; exact g0) (by rw [List.getElem?_set_self (by omega)]) (by rw [List.getElem?_set_ne (by omega)]; exact g2) hr hk
    simp [hw]
    refine head_of ?_
    have hpos : 2 < H.length := by omega
    have hpos1 : 1 < H.length := by omega
    rw [trunc_app (H := H.set 1 (.map (encM eStr m))) (by simp) (by simp [lowFr, low, hT, hpos, hpos1]) (hlo' _ (by omega))]
    simpa [afr] using ih

/-! ### The data -/
def fillM (m : List (Bs × Bs)) : List Touch → List (Bs × Bs)
  | [] => m
  | f :: t => fillM (putM f.path f.dig m) t
theorem fillM_append : ∀ (a b : List Touch) (m : List (Bs × Bs)), fillM m (a ++ b) = fillM (fillM m a) b
  | [], b, m => rfl
  | f :: a, b, m => by simp only [List.cons_append, fillM]; exact fillM_append a b _
theorem fillM_look (p : Bs) : ∀ t : List Touch, lookM p (fillM [] t.reverse) = lookT p t
  | [] => rfl
  | f :: t => by
    rw [List.reverse_cons, fillM_append]
    simp only [fillM, lookM_put, lookT, fillM_look p t]

abbrev hb (data : List (Bs × Bs)) (rows : List (List AV)) (b : Blk) (cs : Heap) : Heap := [.map (encM eStr data), .map [], .cells [.map 0], .cells [.sl rows], b] ++ cs

theorem ag_rg (G : Gam) (t : List Touch) (ht : t.length ≤ big) (R T : AV) (h0 : Heap) (h00 : h0[3]? = some (.cells [.sl (touchRows t)])) (Q : MX → Heap → Prop) : ∀ (k j : Nat) (m : List (Bs × Bs)) (cs : Heap), j + k = t.length → (∀ n, lowH n cs = true) →
    (∀ cs', (∀ n, lowH n cs' = true) → Q .normal (hb (fillM m (t.reverse.drop j)) (touchRows t) .dead cs')) →
    RgM G (F_Bk [.ptr 3 0] h0) Mc.record_Agrees_A0 Mc.record_Agrees_L0 [25, 26] [(0, R), (1, T), (4, .str []), (5, .int .i64 0), (6, .ptr 2 0), (7, .map 1), (9, .junk), (11, .junk), (13, .junk), (14, .junk), (15, .junk), (17, .junk), (26, .junk), (32, .junk), (33, .junk), (34, .junk), (44, .junk), (45, .junk), (46, .junk)] 4 j (hb m (touchRows t) (.lp false .normal) cs) Q
  | 0, j, m, cs, hj, hcs, hk => by
    have e : t.reverse.drop j = [] := List.drop_eq_nil_iff.2 (by simp; omega)
    have hc : (hb m (touchRows t) (.lp false .normal) cs)[3]? = some (.cells [.sl (touchRows t)]) ∧ (touchRows t).length ≤ big ∧ ∀ row ∈ touchRows t, row.length = 2 := ⟨rfl, by simpa using ht, fun row hr => by
      obtain ⟨x, _, rfl⟩ := List.mem_map.1 hr; rfl⟩
    refine rg_done (h1 := hb m (touchRows t) (.lp false .normal) cs) ?_ rfl ?_
    · simp only [F_Bk, h00]
      rw [if_pos hc, if_neg (by simp; omega)]
    · have := hk cs hcs
      rw [e] at this
      exact this
  | k + 1, j, m, cs, hj, hcs, hk => by
    have hc : (hb m (touchRows t) (.lp false .normal) cs)[3]? = some (.cells [.sl (touchRows t)]) ∧ (touchRows t).length ≤ big ∧ ∀ row ∈ touchRows t, row.length = 2 := ⟨rfl, by simpa using ht, fun row hr => by
      obtain ⟨x, _, rfl⟩ := List.mem_map.1 hr; rfl⟩
    have hjl : j < t.reverse.length := by simp; omega
    obtain ⟨f, hf, hfd⟩ := drop_head hjl
    have hrow : (touchRows t).getD ((touchRows t).length - 1 - j) [] = f.row := by
      have e1 : t.reverse[j]? = t[t.length - 1 - j]? := List.getElem?_reverse (by omega)
      rw [hf] at e1
      have e2 : (touchRows t)[t.length - 1 - j]? = some f.row := by simp [touchRows, ← e1]
      rw [touchRows_len, List.getD_eq_getElem?_getD, e2]; rfl
    refine rg_round (h1 := hb m (touchRows t) (.lp false .normal) cs) (args := [.int .i64 ((t.length : Int) - 1 - j), .agg f.row]) ?_ ?_
    · simp only [F_Bk, h00]
      rw [if_pos hc, if_pos (by simp; omega), hrow, touchRows_len]
    · refine rnd_go rfl rfl ?_
      have hlo : ∀ n, lowH n (cs ++ [.cells f.row]) = true := fun n => by
        have e : ∀ (a b : Heap), lowH n (a ++ b) = (lowH n a && lowH n b) := fun a b => by
          induction a with
          | nil => simp [lowH]
          | cons y a ih => simp [lowH, ih, Bool.and_assoc]
        rw [e, hcs n]; simp [lowH, lowB, lowL, low, Touch.row]
      have ih := ag_rg G t ht R T h0 h00 Q k (j + 1) (putM f.path f.dig m) (cs ++ [.cells f.row]) (by omega) hlo (fun cs' hcs' => by
        have := hk cs' hcs'
        rw [hfd] at this
        exact this)
      have hst : ∀ a : Heap, stAV 2 (a ++ [.cells [.str [], .str []]]) (.ptr a.length 0) (.agg f.row) = some (a ++ [.cells f.row]) := fun a => by
        have := st_all (h := a ++ [Blk.cells [.str [], .str []]]) (l := a.length) (n := 2) (vs := [.str [], .str []]) (us := f.row) (by simp) rfl rfl (by omega) rfl
        simpa [-stAV_ptr] using this
      obtain ⟨a, ha⟩ : ∃ a, a = hb m (touchRows t) (.lp false .normal) cs := ⟨_, rfl⟩
      have hst1 := hst a
      obtain ⟨a1, ha1⟩ : ∃ a1, a1 = a ++ [Blk.cells f.row] := ⟨_, rfl⟩
      have g4 : a1[4]? = some (.lp false .normal) := by rw [ha1, ha]; rfl
      obtain ⟨a2, ha2⟩ : ∃ a2, a2 = a1.set 4 (.lp true .normal) := ⟨_, rfl⟩
      have hl1 : a.length = 5 + cs.length := by rw [ha]; simp; omega
      have g0 : a2[0]? = some (.map (encM eStr m)) := by rw [ha2, ha1, ha]; rfl
      have g2 : loadAV 1 false a2 (.ptr 2 0) = some (.map 0) := ld_one (by rw [ha2, ha1, ha]; rfl)
      have gx : a2[a.length]? = some (.cells f.row) := by rw [ha2, List.getElem?_set_ne (by omega), ha1]; simp
      have p0 : loadAV 1 false a2 (.ptr a.length 0) = some (.str f.path) := ld_cell gx rfl
      have p1 : loadAV 1 false a2 (.ptr a.length 1) = some (.str f.dig) := ld_cell gx rfl
      have mu := fun st0 => op_mapup (G := G) (s := st0) (V := eStr) (k := f.path) (v := f.dig) (x := .str f.dig) g0 rfl rfl rfl
      obtain ⟨a3, ha3⟩ : ∃ a3, a3 = a2.set 0 (.map (encM eStr (putM f.path f.dig m))) := ⟨_, rfl⟩
      have g43 : a3[4]? = some (.lp true .normal) := by rw [ha3, List.getElem?_set_ne (by omega), ha2, List.getElem?_set_self (by rw [ha1]; simp; omega)]
      have hfin : a3.set 4 (.lp false .normal) = hb (putM f.path f.dig m) (touchRows t) (.lp false .normal) (cs ++ [.cells f.row]) := by
        rw [ha3, ha2, ha1, ha]; simp
      rw [← ha3] at mu
      rw [← ha1] at hst1
      rw [← ha]
      simp [Mc.record_Agrees_A0, putPs, hst1, asgQ, g4, ← ha2, -stAV_ptr]
      simp [Mc.record_Agrees_L0, g2, p0, p1, mu, bodyQ, g43, hfin, -loadAV]
      exact ih

end Go.Proofs.YtmjdgpiofhildaaGreatDoor

namespace Go.Proofs.YtmjdgpiofhildaaGreatDoor
open Go.RowKit Go.IntWalk

def agreesE (ds : Bs → Bs) (r : List Done) (t : List Touch) : Bs × Int :=
  if checkE r = 0 then (match agreeR ds t r with
    | some x => x
    | none => ([], 0)) else ([], 1)
def okTree (t : List Touch) : Bool := decide (t.length ≤ big) && t.all fun f => decide (f.dig.length ≤ big)
def okAg (r : List Done) : Bool := okR r && r.all okA
def F_Agrees : List AV → Option AV := F2 (eSl rDone) (eSl rTouch) (eTup2 eStr eInt) fun r t => if okAg r = true ∧ okTree t = true then some (agreesE dsum r t) else none

theorem digest_call {G : Gam} (hD : G Fn.digest_Sum = some (.pure F_dSum)) : ∀ st0 h d, d.length ≤ big → opV G st0 h (.call Fn.digest_Sum) (some [.str d]) = some (.str (dsum d), h) := fun st0 h d hd => by
  have hu := F1_use (A := eStr) (R := eStr) (f := fun d => if d.length ≤ big then some (dsum d) else none) (x := d) (r := dsum d) (if_pos hd)
  exact op_call hD (us := [.str d]) rfl hu (.inl rfl)

theorem Agrees_ok (G : Gam) (hK : G Fn.record_Check = some (.pure F_Check)) (hB : G Fn.slices_Backward_api_Tree_api_File_ = some (.gen F_Back)) (hI : G Fn.slices_Backward_api_Tree_api_File__1 = some (.iter F_Bk)) (hD : G Fn.digest_Sum = some (.pure F_dSum)) (hC : G Fn.slices_Clip___api_Touch_api_Touch_ = some (.pure F_Clip)) :
    ∀ args r, F_Agrees args = some r → wpM G Mc.record_Agrees (pureQ Rs.record_Agrees r) [] (frInit Ks.record_Agrees args) [] := F2_ok fun xs t r h => by
  split at h
  · rename_i hok
    obtain ⟨ho, ht⟩ := hok
    injection h with h
    have hds := digest_call hD
    have hag : r = agreesE dsum xs t := h.symm
    obtain ⟨ds, hdse⟩ : ∃ ds, ds = dsum := ⟨_, rfl⟩
    rw [← hdse] at hds hag
    clear h hdse
    simp only [okAg, Bool.and_eq_true] at ho
    obtain ⟨ho1, ho2⟩ := ho
    simp only [okTree, Bool.and_eq_true, decide_eq_true_eq] at ht
    obtain ⟨ht1, ht2⟩ := ht
    have hdat : okData t := fun f hf => by simpa using List.all_eq_true.1 ht2 f hf
    have hxs : xs.length ≤ big := by simp only [okR, Bool.and_eq_true, decide_eq_true_eq] at ho1; exact ho1.1
    have cK : ∀ st0 h, opV G st0 h (.call Fn.record_Check) (some [.sl (doneRows xs)]) = some (.int .i64 (checkE xs), h) := fun st0 h => by
      have hu := F1_use (A := eSl rDone) (R := eInt) (f := fun r => if okR r then some (checkE r) else none) (x := xs) (r := checkE xs) (if_pos ho1)
      exact op_call hK (us := [.sl (doneRows xs)]) rfl hu (.inl rfl)
    rw [wpM_go, eSl_done, eSl_touch]
    simp only [eTup2_enc, eStr_enc, eInt_enc]
    cases c1 : eqB (checkE xs) 0 with
    | false =>
      have e : ¬ checkE xs = 0 := eqB_not.1 c1
      rw [hag]
      simp [Mc.record_Agrees, frInit, Ks.record_Agrees, cK, sc_neq, c1, Rs.record_Agrees, agreesE, e]
    | true =>
      have e : checkE xs = 0 := eqB_iff.1 c1
      simp only [agreesE, e, if_true] at hag
      have cB : opV G false [.map [], .map [], .cells [.map 0]] (.call Fn.slices_Backward_api_Tree_api_File_) (some [.sl (touchRows t)]) = some (.fn Fn.slices_Backward_api_Tree_api_File__1 [.ptr 3 0], [.map [], .map [], .cells [.map 0], .cells [.sl (touchRows t)]]) := by
        rw [op_call_gen hB]; rfl
      simp [Mc.record_Agrees, frInit, Ks.record_Agrees, cK, sc_neq, c1, cB]
      refine go_rgf (f := Fn.slices_Backward_api_Tree_api_File__1) (caps := [.ptr 3 0]) (F := F_Bk) (by simp) hI ?_
      refine ag_rg G t ht1 (.sl (doneRows xs)) (.sl (touchRows t)) _ rfl _ t.length 0 [] [] (by omega) (fun n => rfl) (fun cs hcs => ?_)
      have hdata : ∀ p, lookM p (fillM [] (t.reverse.drop 0)) = lookT p t := fun p => by simpa using fillM_look p t
      obtain ⟨H, hH⟩ : ∃ H, H = hb (fillM [] (t.reverse.drop 0)) (touchRows t) .dead cs := ⟨_, rfl⟩
      rw [← hH]
      have hlo : ∀ n, 3 ≤ n → lowH n H = true := fun n hn => by
        rw [hH]
        have h0 : 0 < n := by omega
        have e : ∀ (a b : Heap), lowH n (a ++ b) = (lowH n a && lowH n b) := fun a b => by
          induction a with
          | nil => simp [lowH]
          | cons y a ih => simp [lowH, ih, Bool.and_assoc]
        rw [e, hcs n]; simp [lowH, lowB, lowL, low, h0]
      have h3 : 3 ≤ H.length := by rw [hH]; simp
      have l1 := fun ks hr hk => ag_L1 G ds hds hC t hdat (fillM [] (t.reverse.drop 0)) hdata (.sl (touchRows t)) (fun n => rfl) H.length xs hxs (fun s hs => List.all_eq_true.1 ho2 s hs) (.tup [.str r.1, .int .i64 r.2]) (ks := ks) xs 0 [] H rfl (by omega) (fun p v hv => by simp [lookM] at hv) rfl h3 hlo (by rw [hH]; rfl) (by rw [hH]; rfl) (by rw [hH]; rfl) hr hk
      simp at l1
      simp
      refine l1 _ (fun p e' hpe => ?_) (fun hn env h => ?_)
      · rw [hpe] at hag; rw [hag]; exact ⟨rfl, rfl⟩
      · rw [hn] at hag
        rw [hag]
        simp [Rs.record_Agrees]
  · cases h

end Go.Proofs.YtmjdgpiofhildaaGreatDoor

namespace Go.Proofs.YtmjdgpiofhildaaGreatDoor
open Go.RowKit Go.IntWalk

/-! ### slices.Clone, as one that makes an array -/
def F_CloneG (args : List AV) (h : Heap) : Option (AV × Heap) :=
  match args with
  | [.sl rows] => if rows ≠ [] ∧ sizesOk 2 rows = true ∧ rows.length ≤ big then some (.own (h.length + 1) 0 rows.length, h ++ [.arr 2 0 [] true, .arr 2 0 rows true]) else none
  | _ => none
theorem CloneG_ok (G : Gam) : ∀ args h r h', F_CloneG args h = some (r, h') → wpM G Mc.slices_Clone___api_Touch_api_Touch_ (genQ Rs.slices_Clone___api_Touch_api_Touch_ r h') [] (frInit Ks.slices_Clone___api_Touch_api_Touch_ args) h := by
  intro args h r h' he
  unfold F_CloneG at he
  split at he
  · rename_i rows
    split at he
    · rename_i hc
      obtain ⟨hne, hsz, hb⟩ := hc
      injection he with he; injection he with h1 h2; subst h1 h2
      rw [wpM_go]
      cases rows with
      | nil => exact absurd rfl hne
      | cons r rs =>
        have ap := fun st => op_app_tsl_nil (G := G) (s := st) (h := h ++ [.arr 2 0 [] true]) (n := 2) (b := 32) (x := .sl (r :: rs)) rfl hsz (by simp) (by unfold big at hb; unfold byteMax; omega) (by unfold big at hb; unfold byteMax; omega)
        simp at ap
        simp [Mc.slices_Clone___api_Touch_api_Touch_, frInit, Ks.slices_Clone___api_Touch_api_Touch_, sizesOk, onesOk, ap, genQ, Rs.slices_Clone___api_Touch_api_Touch_]
    · cases he
  · cases he

/-! ### Plain facts -/
theorem findP_look (p : Bs) : ∀ (t : List Touch) (k : Nat), (findP (fun f : Touch => f.path == p) k t = -1 ∧ lookT p t = none) ∨ ∃ i f, findP (fun f : Touch => f.path == p) k t = ((k + i : Nat) : Int) ∧ t[i]? = some f ∧ lookT p t = some f.dig
  | [], k => .inl ⟨rfl, rfl⟩
  | f :: t, k => by
    simp only [findP, lookT]
    by_cases h : f.path = p
    · right
      exact ⟨0, f, by simp [h], rfl, by simp [h]⟩
    · have h1 : (f.path == p) = false := by simpa using h
      have h2 : ¬ p = f.path := fun e => h e.symm
      simp only [h1, Bool.false_eq_true, if_false, h2]
      rcases findP_look p t (k + 1) with ⟨a, b⟩ | ⟨i, g, a, b, c⟩
      · exact .inl ⟨a, b⟩
      · exact .inr ⟨i + 1, g, by rw [a]; congr 1; omega, by simpa using b, c⟩
theorem check_reads : ∀ (xs : List Done) (m : List (Bs × Bs)) (prev : Option Done), checkFrom m prev xs = 0 → ∀ s ∈ xs, s.reads ≠ []
  | [], _, _, _ => fun s hs => by cases hs
  | x :: xs, m, prev, h => fun s hs => by
    simp only [checkFrom] at h
    split at h
    · cases h
    · split at h
      · cases h
      · split at h
        · cases h
        · rename_i hc
          split at h
          · rcases List.mem_cons.1 hs with rfl | hs
            · intro e
              simp [countBad, e] at hc
            · exact check_reads xs _ _ h s hs
          · rename_i hf; exact absurd h hf
theorem check_reads' {xs : List Done} (h : checkE xs = 0) : ∀ s ∈ xs, s.reads ≠ [] := by
  unfold checkE at h
  split at h
  · cases h
  · exact check_reads xs [] none h

def orE (o : Option (Bs × Int)) (x : Bs × Int) : Bs × Int := match o with
  | some y => y
  | none => x

abbrev lfr (R T : AV) (p : Bs) (e : Int) (e8 e10 e11 : AV) (n i : Nat) (e53 e54 e55 : AV) : List (Nat × AV) := [(0, R), (1, T), (4, .bool false), (5, .str p), (6, .int .i64 e), (8, e8), (10, e10), (11, e11), (41, R), (42, .int .i64 n), (43, .int .i64 i), (53, e53), (54, e54), (55, e55)]

theorem la_L1 (G G0 : Gam) (ds : Bs → Bs) (hD : ∀ st0 h d, d.length ≤ big → opV G st0 h (.call Fn.digest_Sum) (some [.str d]) = some (.str (ds d), h)) (hI : G Fn.slices_IndexFunc_api_Tree_api_File_ = some (.gen (lookF (F_IndexFunc true 2 G0)))) (h2 : G0 Fn.licitlaw17_RecordAgrees_2 = some (.gen (lookF F_ra2)))
    (R : AV) (hR : ∀ n, low n R = true) (t : List Touch) (ht : t.length ≤ big) (hdat : okData t) (nR iR : Nat) (c : List AV) (hc : ∀ n, lowL n c = true) (ts : List Touch) (hts : ts.length ≤ big) (x0 pe : Bs × Int) {ks : List MK} :
    ∀ (rest : List Touch) (j : Nat), ts.drop j = rest → j ≤ ts.length → pe = orE (agree ds t rest) x0 →
    (pe = x0 → ∀ env, exM G .normal ks (pureQ Rs.licitlaw17_RecordAgrees (.bool true)) env (lfr R (.sl (touchRows t)) pe.1 pe.2 (.ptr 0 0) .junk .junk nR iR (.own 2 1 ts.length) (.int .i64 ts.length) (.int .i64 ts.length)) [.cells c, .arr 2 0 [] true, .arr 2 1 (touchRows ts) true]) →
    headM G [10, 11] Mc.licitlaw17_RecordAgrees_L1 3 (.blk 2 :: ks) (pureQ Rs.licitlaw17_RecordAgrees (.bool true)) (lfr R (.sl (touchRows t)) pe.1 pe.2 (.ptr 0 0) .junk .junk nR iR (.own 2 1 ts.length) (.int .i64 ts.length) (.int .i64 j)) [.cells c, .arr 2 0 [] true, .arr 2 1 (touchRows ts) true]
  | [], j, hd, hj, hpe, hk => by
    have hj2 := drop_nil hd
    have e : j = ts.length := by omega
    subst e
    have hk' := hk hpe [(56, .bool false)]
    refine head_go (Mc.licitlaw17_RecordAgrees_L1.eq_1) ?_
    rw [trunc_len (n := 3) rfl]
    simp
    simpa [lfr] using hk'
  | y :: rest, j, hd, hj, hpe, hk => by
    obtain ⟨hj2, hx, hxd⟩ := drop_cons hd
    have hlt : ltB j ts.length = true := ltB_iff.2 (by omega)
    have hw := wrap1 (i := j) (by omega)
    have hrow : (touchRows ts)[j]? = some [.str y.path, .str y.dig] := touchRows_get hx
    have qa : ([.cells c, .arr 2 0 [] true, .arr 2 1 (touchRows ts) true] : Heap)[2]? = some (.arr 2 1 (touchRows ts) true) := rfl
    have ia : iadrAV 2 [.cells c, .arr 2 0 [] true, .arr 2 1 (touchRows ts) true] (.own 2 1 ts.length) (.int .i64 j) = some (.eptr 2 1 j 0) := iadr_own qa (by simp) hrow rfl
    have ld : loadAV 2 true [.cells c, .arr 2 0 [] true, .arr 2 1 (touchRows ts) true] (.eptr 2 1 j 0) = some (.agg [.str y.path, .str y.dig]) := by rw [ld_eptr qa hrow]; rfl
    obtain ⟨H, hH⟩ : ∃ H : Heap, H = [.cells c, .arr 2 0 [] true, .arr 2 1 (touchRows ts) true, .cells [.str y.path, .str y.dig]] := ⟨_, rfl⟩
    have g3 : H[3]? = some (.cells [.str y.path, .str y.dig]) := by rw [hH]; rfl
    have lp : loadAV 1 false H (.ptr 3 0) = some (.str y.path) := ld_cell g3 rfl
    have ldg : loadAV 1 false H (.ptr 3 1) = some (.str y.dig) := ld_cell g3 rfl
    have cI : opV G false H (.call Fn.slices_IndexFunc_api_Tree_api_File_) (some [.sl (touchRows t), .fn Fn.licitlaw17_RecordAgrees_2 [.ptr 3 0]]) = some (.int .i64 (findP (fun f : Touch => f.path == y.path) 0 t), H) := by
      refine index_use (G0 := G0) (xs := t) (e := Touch.row) (val := fun f => .agg f.row) (agg := true) (n := 2) hI ht (fun f => ⟨by simp [mkVal, Touch.row], rfl⟩) (fun f hf => ask_of ?_)
      rw [call_gen h2]
      have d1 : decTouch [.str y.path, .str y.dig] = some y := rfl
      simp [lookF, F_ra2, g3, d1]
    have hst : stAV 2 [.cells c, .arr 2 0 [] true, .arr 2 1 (touchRows ts) true, .cells [.str [], .str []]] (.ptr 3 0) (.agg [.str y.path, .str y.dig]) = some H := by
      have := st_all (h := [.cells c, .arr 2 0 [] true, .arr 2 1 (touchRows ts) true, .cells [.str [], .str []]]) (l := 3) (n := 2) (vs := [.str [], .str []]) (us := [.str y.path, .str y.dig]) rfl rfl rfl (by omega) rfl
      rw [this, hH]; rfl
    refine head_go (Mc.licitlaw17_RecordAgrees_L1.eq_1) ?_
    rw [trunc_len (n := 3) rfl]
    simp only [agree] at hpe
    rcases findP_look y.path t 0 with ⟨a, b⟩ | ⟨i, f, a, b, c'⟩
    · rw [b] at hpe
      simp only [orE] at hpe
      have hn : ltB (-1) 0 = true := ltB_iff.2 (by omega)
      rw [a] at cI
      have bq : binAV .eql (.str pe.1) (.str y.path) = some (.bool true) := by simp [sc_str, strBin, hpe]
      have be : pe.2 = 7 := by rw [hpe]
      simp [hlt, ia, ld, hst, cI, hn, lp, bq, be, sc_eql, Rs.licitlaw17_RecordAgrees, -loadAV, -stAV_ptr]
    · rw [c'] at hpe
      simp only at hpe
      have hdl : f.dig.length ≤ big := hdat f (List.mem_of_getElem? b)
      have hn : ltB ((i : Nat) : Int) 0 = false := ltB_not.2 (by omega)
      rw [a, Nat.zero_add] at cI
      have it := iadr_sl (h := H) (size := 2) (k := .i64) (touchRows_get b) rfl
      have cD := fun st0 h => hD st0 h f.dig hdl
      by_cases he : ds f.dig = y.dig
      · rw [if_pos he] at hpe
        have bn : binAV .neq (.str (ds f.dig)) (.str y.dig) = some (.bool false) := by simp [sc_str, strBin, he]
        have ih := la_L1 G G0 ds hD hI h2 R hR t ht hdat nR iR c hc ts hts x0 pe (ks := ks) rest (j + 1) hxd (by omega) hpe hk
        simp [hlt, ia, ld, hst, cI, hn, it, cD, ldg, bn, hw, cut, mkVal, -loadAV, -stAV_ptr]
        refine head_of ?_
        have htr : ∀ fr, lowFr 3 fr = true → trunc 3 fr H = [.cells c, .arr 2 0 [] true, .arr 2 1 (touchRows ts) true] := fun fr hf => by
          have : H = [.cells c, .arr 2 0 [] true, .arr 2 1 (touchRows ts) true] ++ [.cells [.str y.path, .str y.dig]] := by rw [hH]; rfl
          rw [this]
          exact trunc_app rfl hf (by simp [lowH, lowB, hc])
        rw [htr _ (by simp [lowFr, low, hR])]
        simpa [lfr] using ih
      · rw [if_neg he] at hpe
        simp only [orE] at hpe
        have bn : binAV .neq (.str (ds f.dig)) (.str y.dig) = some (.bool true) := by simp [sc_str, strBin, he]
        have bq : binAV .eql (.str pe.1) (.str y.path) = some (.bool true) := by simp [sc_str, strBin, hpe]
        have be : pe.2 = 9 := by rw [hpe]
        simp [hlt, ia, ld, hst, cI, hn, it, cD, lp, ldg, bn, bq, be, sc_eql, cut, mkVal, Rs.licitlaw17_RecordAgrees, -loadAV, -stAV_ptr]

theorem la_L0 (G G0 : Gam) (ds : Bs → Bs) (hD : ∀ st0 h d, d.length ≤ big → opV G st0 h (.call Fn.digest_Sum) (some [.str d]) = some (.str (ds d), h)) (hI : G Fn.slices_IndexFunc_api_Tree_api_File_ = some (.gen (lookF (F_IndexFunc true 2 G0)))) (h2 : G0 Fn.licitlaw17_RecordAgrees_2 = some (.gen (lookF F_ra2)))
    (hC : G Fn.slices_Clone___api_Touch_api_Touch_ = some (.gen F_CloneG)) (t : List Touch) (ht : t.length ≤ big) (hdat : okData t) (xs : List Done) (hxs : xs.length ≤ big) (hok : ∀ s ∈ xs, okA s = true ∧ s.reads ≠ []) (x0 pe : Bs × Int) {ks : List MK} :
    ∀ (rest : List Done) (i : Nat) (h : Heap), xs.drop i = rest → i ≤ xs.length → pe = orE (agreeR ds t rest) x0 →
    (pe = x0 → ∀ env h, exM G .normal ks (pureQ Rs.licitlaw17_RecordAgrees (.bool true)) env (lfr (.sl (doneRows xs)) (.sl (touchRows t)) pe.1 pe.2 .junk .junk .junk xs.length xs.length .junk .junk .junk) h) →
    headM G [8, 10, 11, 53, 54, 55] Mc.licitlaw17_RecordAgrees_L0 0 (.blk 0 :: ks) (pureQ Rs.licitlaw17_RecordAgrees (.bool true)) (lfr (.sl (doneRows xs)) (.sl (touchRows t)) pe.1 pe.2 .junk .junk .junk xs.length i .junk .junk .junk) h
  | [], i, h, hd, hi, hpe, hk => by
    have hi2 := drop_nil hd
    have e : i = xs.length := by omega
    subst e
    have hk' := hk hpe [(44, .bool false)]
    refine head_go (Mc.licitlaw17_RecordAgrees_L0.eq_1) ?_
    have htr : ∀ fr, lowFr 0 fr = true → trunc 0 fr h = [] := fun fr hf => by rw [trunc_low hf rfl]; rfl
    rw [htr _ (by simp [junkAll, lowFr, low])]
    simp
    simpa [lfr] using hk' []
  | s :: rest, i, h, hd, hi, hpe, hk => by
    obtain ⟨hi2, hx, hxd⟩ := drop_cons hd
    have hlt : ltB i xs.length = true := ltB_iff.2 (by omega)
    have hw := wrap1 (i := i) (by omega)
    obtain ⟨hokA, hne⟩ := hok s (List.mem_of_getElem? hx)
    simp only [okA, decide_eq_true_eq] at hokA
    have hrow := doneRows_get hx
    have ia := fun h => iadr_sl (h := h) (size := 6) (k := .i64) hrow (by simp [Done.row])
    have hcu : cut s.row 0 6 = s.row := cut_all (by simp [Done.row])
    have hmk : mkVal true 6 s.row = some (.agg s.row) := by simp [mkVal, Done.row]
    have hst : stAV 6 [.cells [.int .i64 0, .int .i64 0, .int .i64 0, .nils, .str [], .str []]] (.ptr 0 0) (.agg s.row) = some [.cells s.row] := by
      have := st_all (h := [Blk.cells [.int .i64 0, .int .i64 0, .int .i64 0, .nils, .str [], .str []]]) (l := 0) (n := 6) (vs := [.int .i64 0, .int .i64 0, .int .i64 0, .nils, .str [], .str []]) (us := s.row) rfl rfl (by simp [Done.row]) (by omega) (by simp [Done.row])
      simpa [-stAV_ptr] using this
    have ld3 : ∀ t : Heap, loadAV 1 false (.cells s.row :: t) (.ptr 0 3) = some (.sl (touchRows s.reads)) := fun t => ld_cell (h := .cells s.row :: t) (l := 0) rfl rfl
    have ld4 : ∀ t : Heap, loadAV 2 true (.cells s.row :: t) (.ptr 0 4) = some (.agg [.str s.wrote.path, .str s.wrote.dig]) := fun t => by
      have : cut s.row 4 2 = [.str s.wrote.path, .str s.wrote.dig] := rfl
      simp [loadAV, this, mkVal]
    have hszr : sizesOk 2 (touchRows s.reads) = true := sizesOk_map (e := Touch.row) (fun _ => rfl) _
    have hrne : touchRows s.reads ≠ [] := fun e => hne (by simpa [touchRows] using e)
    have cC : opV G true [.cells s.row] (.callg Fn.slices_Clone___api_Touch_api_Touch_) (some [.sl (touchRows s.reads)]) = some (.own 2 0 s.reads.length, [.cells s.row, .arr 2 0 [] true, .arr 2 0 (touchRows s.reads) true]) := by
      rw [opV_eff rfl]
      simp only [evalEff, call_gen hC, F_CloneG]
      rw [if_pos ⟨hrne, hszr, by simp; omega⟩]
      simp
    have hte : touchRows s.reads ++ [[.str s.wrote.path, .str s.wrote.dig]] = touchRows (touches s) := by simp [touchRows, touches, Touch.row]
    have htl : (touches s).length = s.reads.length + 1 := by simp [touches]
    have ap := op_app (G := G) (s := true) (h := [.cells s.row, .arr 2 0 [] true, .arr 2 0 (touchRows s.reads) true]) (n := 2) (b := 32) (l := 2) (ver := 0) (k := s.reads.length) (x := .tsl [[.str s.wrote.path, .str s.wrote.dig]]) (new := [[.str s.wrote.path, .str s.wrote.dig]]) (rows := touchRows s.reads) rfl rfl (by simp) rfl (by simp) (by simp; unfold big at hokA; unfold byteMax; omega) (by simp; unfold big at hokA; unfold byteMax; omega)
    simp only [hte, List.length_singleton, Nat.zero_add] at ap
    rw [← htl] at ap
    simp only [List.set_cons_succ, List.set_cons_zero] at ap
    have hc : ∀ n, lowL n s.row = true := fun n => by simp [Done.row, lowL, low]
    simp only [agreeR] at hpe
    have hpe' : pe = orE (agree ds t (touches s)) (orE (agreeR ds t rest) x0) := by
      rw [hpe]
      cases agree ds t (touches s) <;> rfl
    have l1 := fun ks hk => la_L1 G G0 ds hD hI h2 (.sl (doneRows xs)) (fun n => rfl) t ht hdat xs.length i s.row hc (touches s) (by rw [htl]; omega) (orE (agreeR ds t rest) x0) pe (ks := ks) (touches s) 0 rfl (by omega) hpe' hk
    refine head_go (Mc.licitlaw17_RecordAgrees_L0.eq_1) ?_
    have htr : ∀ fr, lowFr 0 fr = true → trunc 0 fr h = [] := fun fr hf => by rw [trunc_low hf rfl]; rfl
    rw [htr _ (by simp [junkAll, lowFr, low])]
    simp at l1
    simp [hlt, ia, hcu, hmk, hst, ld3, ld4, cC, ap, -loadAV, -stAV_ptr, ownsL, owns, viewL, view, sizesOk, onesOk, oneC]
    refine l1 _ (fun he env => ?_)
    have ih := la_L0 G G0 ds hD hI h2 hC t ht hdat xs hxs hok x0 pe (ks := ks) rest (i + 1) [.cells s.row, .arr 2 0 [] true, .arr 2 1 (touchRows (touches s)) true] hxd (by omega) he hk
    simp [hw]
    refine head_of ?_
    have htr2 : ∀ (fr : List (Nat × AV)) (h : Heap), lowFr 0 fr = true → trunc 0 fr h = [] := fun fr h hf => by rw [trunc_low hf rfl]; rfl
    rw [htr2 _ _ (by simp [lowFr, low])]
    have ih2 := la_L0 G G0 ds hD hI h2 hC t ht hdat xs hxs hok x0 pe (ks := ks) rest (i + 1) [] hxd (by omega) he hk
    simpa [lfr] using ih2

def F_RecordAgrees : List AV → Option AV := F2 (eSl rDone) (eSl rTouch) eBool fun r t => if okAg r = true ∧ okTree t = true then some true else none
theorem RecordAgrees_ok (G G0 : Gam) (hA : G Fn.licitlaw17_awake = some (.pure F_awake)) (hF : G Fn.licitref17_Few = some (.pure F_Few)) (hK : G Fn.record_Check = some (.pure F_Check)) (hG : G Fn.record_Agrees = some (.pure F_Agrees)) (hD : G Fn.digest_Sum = some (.pure F_dSum))
    (hI : G Fn.slices_IndexFunc_api_Tree_api_File_ = some (.gen (lookF (F_IndexFunc true 2 G0)))) (hT : G Fn.slices_ContainsFunc_api_Tree_api_File_ = some (.gen (lookF (F_ContainsFunc true 2 G0)))) (h1 : G0 Fn.licitlaw17_RecordAgrees_1 = some (.pure F_ra1)) (h2 : G0 Fn.licitlaw17_RecordAgrees_2 = some (.gen (lookF F_ra2)))
    (hC : G Fn.slices_Clone___api_Touch_api_Touch_ = some (.gen F_CloneG)) : ∀ args r, F_RecordAgrees args = some r → wpM G Mc.licitlaw17_RecordAgrees (pureQ Rs.licitlaw17_RecordAgrees r) [] (frInit Ks.licitlaw17_RecordAgrees args) [] := F2_ok fun xs t r h => by
  split at h
  · rename_i hok
    injection h with h; subst h
    obtain ⟨ho, ht⟩ := hok
    have hds := digest_call hD
    have cG : ∀ st0 h, opV G st0 h (.call Fn.record_Agrees) (some [.sl (doneRows xs), .sl (touchRows t)]) = some (.tup [.str (agreesE dsum xs t).1, .int .i64 (agreesE dsum xs t).2], h) := fun st0 h => by
      have hu := F2_use (A := eSl rDone) (B := eSl rTouch) (R := eTup2 eStr eInt) (f := fun r t => if okAg r = true ∧ okTree t = true then some (agreesE dsum r t) else none) (x := xs) (y := t) (r := agreesE dsum xs t) (if_pos ⟨ho, ht⟩)
      exact op_call hG (us := [.sl (doneRows xs), .sl (touchRows t)]) rfl hu (.inl rfl)
    obtain ⟨ds, hdse⟩ : ∃ ds, ds = dsum := ⟨_, rfl⟩
    rw [← hdse] at hds cG
    clear hdse
    simp only [okAg, Bool.and_eq_true] at ho
    obtain ⟨ho1, ho2⟩ := ho
    simp only [okTree, Bool.and_eq_true, decide_eq_true_eq] at ht
    obtain ⟨ht1, ht2⟩ := ht
    have hdat : okData t := fun f hf => by simpa using List.all_eq_true.1 ht2 f hf
    have hxs : xs.length ≤ big := by simp only [okR, Bool.and_eq_true, decide_eq_true_eq] at ho1; exact ho1.1
    have cA : ∀ st h, opV G st h (.call Fn.licitlaw17_awake) (some []) = some (.bool true, h) := fun st h => op_call hA rfl rfl (.inl rfl)
    have cF : ∀ st h, opV G st h (.call Fn.licitref17_Few) (some [.sl (doneRows xs)]) = some (.bool (fewE xs), h) := fun st h => op_call hF rfl (F1_use (A := eSl rDone) (R := eBool) (x := xs) (if_pos ho1)) (.inl rfl)
    have cK : ∀ st h, opV G st h (.call Fn.record_Check) (some [.sl (doneRows xs)]) = some (.int .i64 (checkE xs), h) := fun st h => op_call hK rfl (F1_use (A := eSl rDone) (R := eInt) (x := xs) (if_pos ho1)) (.inl rfl)
    have cT : opV G false [] (.call Fn.slices_ContainsFunc_api_Tree_api_File_) (some [.sl (touchRows t), .fn Fn.licitlaw17_RecordAgrees_1 []]) = some (.bool (t.any fun f => ltB 1000 f.dig.length), []) := by
      refine contains_use (G0 := G0) (xs := t) (e := Touch.row) (val := fun f => .agg f.row) (agg := true) (n := 2) hT ht1 (fun f => ⟨by simp [mkVal, Touch.row], rfl⟩) (fun f hf => ask_of ?_)
      exact call_pure h1 (us := [.agg f.row]) (by simp [viewL, view, Touch.row]) (F1_use (A := eAgg rTouch) (R := eBool) (f := fun f => some (ltB 1000 f.dig.length)) (x := f) rfl) rfl
    rw [wpM_go, eSl_done, eSl_touch]
    simp only [eBool_enc]
    cases hf : fewE xs with
    | false => simp [Mc.licitlaw17_RecordAgrees, frInit, Ks.licitlaw17_RecordAgrees, cA, cF, hf, Rs.licitlaw17_RecordAgrees]
    | true =>
      cases h12 : ltB 12 t.length with
      | true => simp [Mc.licitlaw17_RecordAgrees, frInit, Ks.licitlaw17_RecordAgrees, cA, cF, hf, h12, sc_gtr, Rs.licitlaw17_RecordAgrees]
      | false =>
        cases hbig : t.any fun f => ltB 1000 f.dig.length with
        | true =>
          rw [hbig] at cT
          simp [Mc.licitlaw17_RecordAgrees, frInit, Ks.licitlaw17_RecordAgrees, cA, cF, hf, h12, sc_gtr, cT, Rs.licitlaw17_RecordAgrees]
        | false =>
          rw [hbig] at cT
          cases c1 : eqB (checkE xs) 0 with
          | false =>
            have e : ¬ checkE xs = 0 := eqB_not.1 c1
            have ha : agreesE ds xs t = ([], 1) := by simp [agreesE, e]
            rw [ha] at cG
            have bq : binAV .eql (.str []) (.str []) = some (.bool true) := rfl
            simp [Mc.licitlaw17_RecordAgrees, frInit, Ks.licitlaw17_RecordAgrees, cA, cF, hf, h12, sc_gtr, cT, cG, cK, sc_neq, c1, bq, sc_eql, Rs.licitlaw17_RecordAgrees]
          | true =>
            have e : checkE xs = 0 := eqB_iff.1 c1
            have hr := check_reads' e
            have ha : agreesE ds xs t = orE (agreeR ds t xs) ([], 0) := by
              have h3 : ∀ o : Option (Bs × Int), (match o with | some x => x | none => (([], 0) : Bs × Int)) = orE o ([], 0) := fun o => by cases o <;> rfl
              unfold agreesE
              rw [if_pos e]
              exact h3 _
            obtain ⟨pe, hpe⟩ : ∃ pe, pe = agreesE ds xs t := ⟨_, rfl⟩
            rw [← hpe] at cG ha
            have l0 := fun ks hk => la_L0 G G0 ds hds hI h2 hC t ht1 hdat xs hxs (fun s hs => ⟨List.all_eq_true.1 ho2 s hs, hr s hs⟩) ([], 0) pe (ks := ks) xs 0 [] rfl (by omega) ha hk
            try simp at l0
            simp [Mc.licitlaw17_RecordAgrees, frInit, Ks.licitlaw17_RecordAgrees, cA, cF, hf, h12, sc_gtr, cT, cG, cK, sc_neq, c1]
            refine l0 _ (fun he env h => ?_)
            have bq : binAV .eql (.str pe.1) (.str []) = some (.bool true) := by rw [he]; rfl
            have be : pe.2 = 0 := by rw [he]
            simp [bq, be, sc_eql, Rs.licitlaw17_RecordAgrees]
  · cases h

end Go.Proofs.YtmjdgpiofhildaaGreatDoor
