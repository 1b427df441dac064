/- record.Sources. -/
import Derived.Test.YtmjdgpiofhildaaDoorRecI
namespace Go.Proofs.YtmjdgpiofhildaaDoor
open Go.RowKit Go.IntWalk

def writtenM (M : List (Bs × Bool)) : List Done → List (Bs × Bool)
  | [] => M
  | d :: r => writtenM (putM d.wrote.path true M) r
def srcReads (W : List (Bs × Bool)) (b : Bool) : List Touch → List Bs
  | [] => []
  | t :: ts => if (b && !(lookM t.path W).getD false) = true then t.path :: srcReads W b ts else srcReads W b ts
def srcAll (W : List (Bs × Bool)) : List Bool → List Done → List Bs
  | b :: bs, d :: ds => srcReads W b d.reads ++ srcAll W bs ds
  | _, _ => []
def readsSum : List Done → Nat
  | [] => 0
  | d :: r => d.reads.length + readsSum r
def okS (xs : List Done) : Bool := okR xs && decide (readsSum xs < big)
def sourcesE (xs : List Done) (p : Bs) : List Bs := if (neededE xs p).2 then Lib.compact (sortS (srcAll (writtenM [] xs) (neededE xs p).1 xs)) else []
def F_Sources : List AV → Option AV := F2 (eSl rDone) eStr (eSl rStr) fun xs p => if okS xs then some (sourcesE xs p) else none

theorem Sources_L0 (G : Gam) (a0 a1 a5 : AV) (ys : List Done) (hb : ys.length ≤ big) {ks : List MK} {Q : MPost} (fin : List (Bs × Bool)) : ∀ (rest : List Done) (i : Nat) (M : List (Bs × Bool)), ys.drop i = rest → i ≤ ys.length → writtenM M rest = fin → low 2 a0 = true → low 2 a1 = true → low 2 a5 = true →
    exM G .normal ks Q [(27, .bool false)] [(0, a0), (1, a1), (4, .own 0 0 0), (5, a5), (6, .bool true), (7, .map 1), (9, .junk), (10, .junk), (11, .junk), (12, .junk), (14, .junk), (24, .sl (doneRows ys)), (25, .int .i64 ys.length), (26, .int .i64 ys.length), (35, .junk), (36, .junk), (37, .junk), (46, .junk), (47, .junk), (48, .junk)] [.arr 1 0 [] true, .map (encM eBool fin)] →
    headM G [9] Mc.record_Sources_L0 2 (.blk 0 :: ks) Q [(0, a0), (1, a1), (4, .own 0 0 0), (5, a5), (6, .bool true), (7, .map 1), (9, .junk), (10, .junk), (11, .junk), (12, .junk), (14, .junk), (24, .sl (doneRows ys)), (25, .int .i64 ys.length), (26, .int .i64 i), (35, .junk), (36, .junk), (37, .junk), (46, .junk), (47, .junk), (48, .junk)] [.arr 1 0 [] true, .map (encM eBool M)]
  | [], i, M, hd, hi, hf, l0, l1, l5, hk => by
    have hi2 := drop_nil hd
    have e : i = ys.length := by omega
    refine head_go (Mc.record_Sources_L0.eq_1) ?_
    simp only [writtenM] at hf
    subst hf
    rw [trunc_len (n := 2) rfl]
    simpa [e] using hk
  | d :: rest, i, M, hd, hi, hf, l0, l1, l5, hk => by
    obtain ⟨hi2, hx, hxd⟩ := drop_cons hd
    have hi' : ltB i ys.length = true := ltB_iff.2 (by omega)
    have hw := wrap1 (i := i) (by omega)
    have hia := fun h => iadr_sl (h := h) (k := .i64) (doneRows_get hx) d.row_len
    have ih := Sources_L0 G a0 a1 a5 ys hb fin rest (i + 1) (putM d.wrote.path true M) hxd (by omega) (by simpa [writtenM] using hf) l0 l1 l5 hk
    have hmu : ∀ st x, opV G st [.arr 1 0 [] true, .map (encM eBool M), x] (.mapup .s) (some [.map 1, .str d.wrote.path, .bool true]) = some (.junk, [.arr 1 0 [] true, .map (encM eBool (putM d.wrote.path true M)), x]) := fun st x => by
      exact op_mapup (V := eBool) (m := M) (v := true) (h := [.arr 1 0 [] true, .map (encM eBool M), x]) rfl rfl rfl rfl
    simp only [Done.row] at hia
    refine head_go (Mc.record_Sources_L0.eq_1) ?_
    rw [trunc_len (n := 2) rfl]
    simp [hi', hia, hmu, hw]
    refine head_of ?_
    simpa [trunc, l0, l1, l5] using ih

/-- The heap of Sources behind its first loop. -/
abbrev sHeap (W : List (Bs × Bool)) (os : List Bs) : Heap := [.arr 1 0 [] true, .map (encM eBool W), .arr 1 os.length (os.map rStr.enc) true]

theorem Sources_L2 (G : Gam) (a0 a1 a5 a24 a25 a26 a35 a36 : AV) (hlow : low 3 a0 = true ∧ low 3 a1 = true ∧ low 3 a5 = true ∧ low 3 a24 = true ∧ low 3 a25 = true ∧ low 3 a26 = true ∧ low 3 a35 = true ∧ low 3 a36 = true) (i : Nat) (b : Bool) (W : List (Bs × Bool)) (ts : List Touch) (hb : ts.length ≤ big) {ks : List MK} {Q : MPost} (fin : List Bs) (hbig : fin.length < big) : ∀ (rest : List Touch) (j : Nat) (os : List Bs), ts.drop j = rest → j ≤ ts.length → os ++ srcReads W b rest = fin →
    exM G .normal ks Q [(49, .bool false)] [(0, a0), (1, a1), (4, .own 0 0 0), (5, a5), (6, .bool true), (7, .map 1), (9, .junk), (10, .own 2 fin.length fin.length), (11, .int .i64 i), (12, .bool b), (14, .junk), (24, a24), (25, a25), (26, a26), (35, a35), (36, a36), (37, .int .i64 i), (46, .sl (touchRows ts)), (47, .int .i64 ts.length), (48, .int .i64 ts.length)] (sHeap W fin) →
    headM G [14] Mc.record_Sources_L2 3 (.blk 4 :: ks) Q [(0, a0), (1, a1), (4, .own 0 0 0), (5, a5), (6, .bool true), (7, .map 1), (9, .junk), (10, .own 2 os.length os.length), (11, .int .i64 i), (12, .bool b), (14, .junk), (24, a24), (25, a25), (26, a26), (35, a35), (36, a36), (37, .int .i64 i), (46, .sl (touchRows ts)), (47, .int .i64 ts.length), (48, .int .i64 j)] (sHeap W os)
  | [], j, os, hd, hj, hf, hk => by
    have hi2 := drop_nil hd
    have e : j = ts.length := by omega
    refine head_go (Mc.record_Sources_L2.eq_1) ?_
    simp only [srcReads, List.append_nil] at hf
    subst hf
    rw [trunc_len (n := 3) rfl]
    simpa [e] using hk
  | t :: rest, j, os, hd, hj, hf, hk => by
    obtain ⟨hi2, hx, hxd⟩ := drop_cons hd
    have hi' : ltB j ts.length = true := ltB_iff.2 (by omega)
    have hw := wrap1 (i := j) (by omega)
    have hlk : ∀ st x, opV G st (sHeap W os ++ [x]) (.look .s false (.bool false)) (some [.map 1, .str t.path]) = some (.bool ((lookM t.path W).getD false), sHeap W os ++ [x]) := fun st x => by
      rw [op_look (V := eBool) (m := W) rfl]; cases lookM t.path W <;> rfl
    have hol : os.length ≤ fin.length := by rw [← hf]; simp
    have happ := fun st x => op_app1 (G := G) (s := st) (e := rStr.enc) (n := 1) (b := 16) (l := 2) (os := os) (x := t.path) (h := sHeap W os ++ [x]) rfl rfl (by decide) (by omega)
    simp at hlk happ
    refine head_go (Mc.record_Sources_L2.eq_1) ?_
    rw [trunc_len (n := 3) rfl]
    cases b with
    | false =>
      have ih := Sources_L2 G a0 a1 a5 a24 a25 a26 a35 a36 hlow i false W ts hb fin hbig rest (j + 1) os hxd (by omega) (by simpa [srcReads] using hf) hk
      simp [hi', iadr_sl (touchRows_get hx), hw]
      refine head_of ?_
      simpa [trunc, hlow, sHeap] using ih
    | true =>
      cases hl : (lookM t.path W).getD false with
      | true =>
        have ih := Sources_L2 G a0 a1 a5 a24 a25 a26 a35 a36 hlow i true W ts hb fin hbig rest (j + 1) os hxd (by omega) (by simpa [srcReads, hl] using hf) hk
        simp [hi', iadr_sl (touchRows_get hx), hw, hlk, hl]
        refine head_of ?_
        simpa [trunc, hlow, sHeap] using ih
      | false =>
        have ih := Sources_L2 G a0 a1 a5 a24 a25 a26 a35 a36 hlow i true W ts hb fin hbig rest (j + 1) (os ++ [t.path]) hxd (by omega) (by rw [← hf]; simp [srcReads, hl]) hk
        simp [hi', iadr_sl (touchRows_get hx), hw, hlk, hl, sizesOk, onesOk, happ]
        refine head_of ?_
        simpa [trunc, hlow, sHeap] using ih

theorem Sources_L1 (G : Gam) (a1 : AV) (xs : List Done) (hok : okR xs = true) (ms : List Bool) (hms : ms.length = xs.length) (W : List (Bs × Bool)) (a24 a25 a26 : AV) (hlow : low 3 a1 = true ∧ low 3 a24 = true ∧ low 3 a25 = true ∧ low 3 a26 = true) {ks : List MK} {Q : MPost} (fin : List Bs) (hbig : fin.length < big) : ∀ (rest : List Bool) (drest : List Done) (i : Nat) (os : List Bs), ms.drop i = rest → xs.drop i = drest → i ≤ ms.length → os ++ srcAll W rest drest = fin →
    exM G .normal ks Q [(38, .bool false)] [(0, .sl (doneRows xs)), (1, a1), (4, .own 0 0 0), (5, .sl (ms.map rBool.enc)), (6, .bool true), (7, .map 1), (9, .junk), (10, .own 2 fin.length fin.length), (11, .junk), (12, .junk), (14, .junk), (24, a24), (25, a25), (26, a26), (35, .sl (ms.map rBool.enc)), (36, .int .i64 ms.length), (37, .int .i64 ms.length), (46, .junk), (47, .junk), (48, .junk)] (sHeap W fin) →
    headM G [11, 12, 14, 46, 47, 48] Mc.record_Sources_L1 3 (.blk 2 :: ks) Q [(0, .sl (doneRows xs)), (1, a1), (4, .own 0 0 0), (5, .sl (ms.map rBool.enc)), (6, .bool true), (7, .map 1), (9, .junk), (10, .own 2 os.length os.length), (11, .junk), (12, .junk), (14, .junk), (24, a24), (25, a25), (26, a26), (35, .sl (ms.map rBool.enc)), (36, .int .i64 ms.length), (37, .int .i64 i), (46, .junk), (47, .junk), (48, .junk)] (sHeap W os)
  | [], drest, i, os, hd, hdd, hi, hf, hk => by
    have hi2 := drop_nil hd
    have e : i = ms.length := by omega
    refine head_go (Mc.record_Sources_L1.eq_1) ?_
    have : srcAll W [] drest = [] := rfl
    rw [this, List.append_nil] at hf
    subst hf
    rw [trunc_len (n := 3) rfl]
    simpa [e] using hk
  | b :: rest, [], i, os, hd, hdd, hi, hf, hk => by
    obtain ⟨hi2, _, _⟩ := drop_cons hd
    have := drop_nil hdd
    omega
  | b :: rest, d :: drest, i, os, hd, hdd, hi, hf, hk => by
    obtain ⟨hi2, hx, hxd⟩ := drop_cons hd
    obtain ⟨_, hdx, hdxd⟩ := drop_cons hdd
    have hok' := hok
    simp only [okR, Bool.and_eq_true, decide_eq_true_eq] at hok'
    have hrd : d.reads.length ≤ big := by
      have := List.all_eq_true.1 hok'.2 d (List.mem_of_getElem? hdx)
      simp only [okD, Bool.and_eq_true, decide_eq_true_eq] at this; exact this.1.1
    have hi' : ltB i ms.length = true := ltB_iff.2 (by omega)
    have hw := wrap1 (i := i) (by omega)
    have hia := fun h => iadr_sl (h := h) (k := .i64) (rows := ms.map rBool.enc) (i := i) (row := rBool.enc b) (size := 1) (by simp [hx]) rfl
    have hid := fun h => iadr_sl (h := h) (k := .i64) (doneRows_get hdx) d.row_len
    have hf2 : (os ++ srcReads W b d.reads) ++ srcAll W rest drest = fin := by rw [← hf]; simp [srcAll]
    have ih := Sources_L1 G a1 xs hok ms hms W a24 a25 a26 hlow fin hbig rest drest (i + 1) (os ++ srcReads W b d.reads) hxd hdxd (by omega) hf2 hk
    have hl2 : (os ++ srcReads W b d.reads).length < big := by
      have : (os ++ srcReads W b d.reads).length ≤ fin.length := by rw [← hf2]; simp
      omega
    have l2 := fun ks Q hk => Sources_L2 G (.sl (doneRows xs)) a1 (.sl (ms.map rBool.enc)) a24 a25 a26 (.sl (ms.map rBool.enc)) (.int .i64 ms.length) ⟨rfl, hlow.1, rfl, hlow.2.1, hlow.2.2.1, hlow.2.2.2, rfl, rfl⟩ i b W d.reads hrd (ks := ks) (Q := Q) (os ++ srcReads W b d.reads) hl2 d.reads 0 os rfl (by omega) rfl hk
    simp [Done.row] at hid l2
    refine head_go (Mc.record_Sources_L1.eq_1) ?_
    rw [trunc_len (n := 3) rfl]
    simp [hi', hia, hid]
    refine l2 _ _ ?_
    simp [hw]
    refine head_of ?_
    rw [trunc_len (n := 3) rfl]
    simpa using ih

theorem srcReads_len (W : List (Bs × Bool)) (b : Bool) : ∀ ts : List Touch, (srcReads W b ts).length ≤ ts.length
  | [] => Nat.le_refl _
  | t :: ts => by
    have := srcReads_len W b ts
    unfold srcReads; split <;> simp <;> omega
theorem srcAll_len (W : List (Bs × Bool)) : ∀ (ms : List Bool) (xs : List Done), (srcAll W ms xs).length ≤ readsSum xs
  | [], xs => by simp [srcAll]
  | b :: ms, [] => by simp [srcAll]
  | b :: ms, d :: xs => by
    have h1 := srcReads_len W b d.reads
    have h2 := srcAll_len W ms xs
    simp [srcAll, readsSum]; omega

theorem neededE_len (xs : List Done) (p : Bs) (h : (neededE xs p).2 = true) : (neededE xs p).1.length = xs.length := by
  unfold neededE at h ⊢
  simp only at h ⊢
  split
  · rename_i hc; rw [if_pos hc] at h; cases h
  · simp [markDown_len]

theorem Sources_ok (G : Gam) (hN : G Fn.record_needed = some (.pure F_needed)) (hS : G Fn.slices_Sort___string_string_ = some (.gen F_Sort)) (hC : G Fn.slices_Compact___string_string_ = some (.gen F_Compact)) : ∀ args r, F_Sources args = some r → wpM G Mc.record_Sources (pureQ Rs.record_Sources r) [] (frInit Ks.record_Sources args) [] := F2_ok fun xs p r h => by
  split at h
  · rename_i ho
    injection h with h; subst h
    simp only [okS, Bool.and_eq_true, decide_eq_true_eq] at ho
    rw [wpM_go, eSl_done]
    have hc : ∀ st h, opV G st h (.call Fn.record_needed) (some [.sl (doneRows xs), .str p]) = some (.tup [.sl ((neededE xs p).1.map rBool.enc), .bool (neededE xs p).2], h) := fun st h => op_call hN rfl (F2_use (A := eSl rDone) (B := eStr) (R := eTup2 (eSl rBool) eBool) (x := xs) (y := p) (if_pos ho.1)) (.inr rfl)
    have hb := ho.1
    simp only [okR, Bool.and_eq_true, decide_eq_true_eq] at hb
    have hln := neededE_len xs p
    unfold sourcesE
    generalize (neededE xs p).1 = ms at hc hln ⊢
    generalize (neededE xs p).2 = ok at hc hln ⊢
    cases ok with
    | false => simp [Mc.record_Sources, frInit, Ks.record_Sources, hc, Rs.record_Sources, eSl, rowsOf]
    | true =>
      have hms := hln rfl
      have hsl := srcAll_len (writtenM [] xs) ms xs
      generalize hfin : srcAll (writtenM [] xs) ms xs = fin at hsl
      have l0 := fun ks Q hk => Sources_L0 G (.sl (doneRows xs)) (.str p) (.sl (ms.map rBool.enc)) xs hb.1 (ks := ks) (Q := Q) (writtenM [] xs) xs 0 [] rfl (by omega) rfl rfl rfl rfl hk
      have l1 := fun ks Q hk => Sources_L1 G (.str p) xs ho.1 ms hms (writtenM [] xs) (.sl (doneRows xs)) (.int .i64 xs.length) (.int .i64 xs.length) ⟨rfl, rfl, rfl, rfl⟩ (ks := ks) (Q := Q) fin (by omega) ms xs 0 [] rfl rfl (by omega) hfin hk
      have hfb : fin.length ≤ big := by omega
      have cs : opV G false (sHeap (writtenM [] xs) fin) (.call Fn.slices_Sort___string_string_) (some [.own 2 fin.length fin.length]) = some (.tup [], [.arr 1 0 [] true, .map (encM eBool (writtenM [] xs)), .arr 1 fin.length ((sortS fin).map rStr.enc) true]) := by
        rw [op_call_gen hS]
        simp [F_Sort, decSs, decRows_de, hfb]
      have hsl2 : (sortS fin).length = fin.length := by simp [sortS]
      have cc : opV G false [.arr 1 0 [] true, .map (encM eBool (writtenM [] xs)), .arr 1 fin.length ((sortS fin).map rStr.enc) true] (.call Fn.slices_Compact___string_string_) (some [.own 2 fin.length fin.length]) = some (.own 2 fin.length (Lib.compact (sortS fin)).length, [.arr 1 0 [] true, .map (encM eBool (writtenM [] xs)), .arr 1 fin.length ((Lib.compact (sortS fin) ++ List.replicate (fin.length - (Lib.compact (sortS fin)).length) []).map rStr.enc) true]) := by
        rw [op_call_gen hC]
        simp [F_Compact, decSs, decRows_de, hfb, hsl2]
      have hro : rowsOf [.arr 1 0 [] true, .map (encM eBool (writtenM [] xs)), .arr 1 fin.length ((Lib.compact (sortS fin) ++ List.replicate (fin.length - (Lib.compact (sortS fin)).length) []).map rStr.enc) true] (.own 2 fin.length (Lib.compact (sortS fin)).length) = some ((Lib.compact (sortS fin)).map rStr.enc) := by
        simp [rowsOf]
      simp [sHeap] at l0 l1 cs cc hro
      simp [Mc.record_Sources, frInit, Ks.record_Sources, hc]
      refine l0 _ _ ?_
      simp
      refine l1 _ _ ?_
      simp [cs, cc, hro, Rs.record_Sources, eSl, hfin]
  · cases h

end Go.Proofs.YtmjdgpiofhildaaDoor
