/- The reference's marks, Needed, Insert, Sources; the plain law of Needed and Sources (what the program's and the reference's come to is the same); the law RecordNeeds; the chain of contracts up to it. -/
import Derived.Test.YtmjdgpiofhildaaDoorRecRow2
import Derived.Sort.Walk0
namespace Go.Proofs.YtmjdgpiofhildaaDoor
open Go.RowKit Go.IntWalk

/-! ### marks -/
def rmarkReads (xs : List Done) (mk : List Bool) : List Touch → List Bool
  | [] => mk
  | t :: ts => rmarkReads xs (if 0 ≤ wroteE xs t.path then mk.set (wroteE xs t.path).toNat true else mk) ts
def rmarkDown (xs : List Done) : Nat → List Bool → List Bool
  | 0, mk => mk
  | i + 1, mk => rmarkDown xs i (if mk[i]? = some true then (match xs[i]? with | some d => rmarkReads xs mk d.reads | none => mk) else mk)
def marksE (xs : List Done) (p : Bs) : List Bool :=
  if wroteE xs p < 0 then List.replicate xs.length false else rmarkDown xs ((wroteE xs p).toNat + 1) ((List.replicate xs.length false).set (wroteE xs p).toNat true)
theorem rmarkReads_len (xs : List Done) : ∀ (ts : List Touch) (mk : List Bool), (rmarkReads xs mk ts).length = mk.length
  | [], mk => rfl
  | t :: ts, mk => by rw [rmarkReads, rmarkReads_len xs ts]; split <;> simp
theorem rmarkDown_len (xs : List Done) : ∀ (i : Nat) (mk : List Bool), (rmarkDown xs i mk).length = mk.length
  | 0, mk => rfl
  | i + 1, mk => by
    rw [rmarkDown, rmarkDown_len xs i]
    split
    · split
      · rw [rmarkReads_len]
      · rfl
    · rfl
theorem marksE_len (xs : List Done) (p : Bs) : (marksE xs p).length = xs.length := by
  unfold marksE; split
  · simp
  · rw [rmarkDown_len]; simp
theorem wroteE_lt (xs : List Done) (p : Bs) : wroteE xs p < xs.length := by
  rcases findP_lt (p := fun d : Done => d.wrote.path == p) xs 0 with h | h
  · unfold wroteE; simpa using h
  · unfold wroteE; rw [h]; omega
def F_marks : List AV → Option AV := F2 (eSl rDone) eStr (eSl rBool) fun xs p => if okR xs then some (marksE xs p) else none

abbrev mHeap (mk : List Bool) : Heap := [.arr 1 0 [] true, .arr 1 0 (mk.map rBool.enc) true]

theorem marks_L1 (G : Gam) (hW : G Fn.licitref17_wrote = some (.pure F_wrote)) (xs : List Done) (hb : xs.length ≤ big) (p : Bs) (w : Int) (i : Nat) (d : Done) (hx : xs[i]? = some d) (hrd : d.reads.length ≤ big) {ks : List MK} {Q : MPost} : ∀ (rest : List Touch) (j : Nat) (mk : List Bool), mk.length = xs.length → d.reads.drop j = rest → j ≤ d.reads.length →
    exM G .normal ks Q [(39, .bool false), (38, .int .i64 d.reads.length), (37, .sl (touchRows d.reads)), (36, .fptr d.row 3), (35, .fptr d.row 0), (34, .int .i64 i), (33, .sl (doneRows xs)), (32, .int .i64 d.reads.length)] [(0, .sl (doneRows xs)), (1, .str p), (4, .own 0 0 0), (5, .own 1 0 xs.length), (6, .int .i64 w), (7, .int .i64 i), (8, .int .i64 d.reads.length), (9, .junk)] (mHeap (rmarkReads xs mk rest)) →
    headM G [9] Mc.licitref17_marks_L1 2 (.blk 2 :: ks) Q [(0, .sl (doneRows xs)), (1, .str p), (4, .own 0 0 0), (5, .own 1 0 xs.length), (6, .int .i64 w), (7, .int .i64 i), (8, .int .i64 j), (9, .junk)] (mHeap mk)
  | [], j, mk, hn, hd, hj, hk => by
    have hi2 := drop_nil hd
    have e : j = d.reads.length := by omega
    have hid := fun h => iadr_sl (h := h) (k := .i64) (doneRows_get hx) d.row_len
    simp only [rmarkReads] at hk
    simp only [Done.row] at hid hk
    refine head_go (Mc.licitref17_marks_L1.eq_1) ?_
    rw [trunc_len (n := 2) rfl]
    simpa [hid, e] using hk
  | t :: rest, j, mk, hn, hd, hj, hk => by
    obtain ⟨hi2, hxt, hxd⟩ := drop_cons hd
    have hi' : ltB j d.reads.length = true := ltB_iff.2 (by omega)
    have hw := wrap1 (i := j) (by omega)
    have hid := fun h => iadr_sl (h := h) (k := .i64) (doneRows_get hx) d.row_len
    have cW : ∀ st h, opV G st h (.call Fn.licitref17_wrote) (some [.sl (doneRows xs), .str t.path]) = some (.int .i64 (wroteE xs t.path), h) := fun st h => op_call hW rfl (F2_use (A := eSl rDone) (B := eStr) (R := eInt) (x := xs) (y := t.path) (if_pos hb)) (.inl rfl)
    simp only [Done.row] at hid
    refine head_go (Mc.licitref17_marks_L1.eq_1) ?_
    rw [trunc_len (n := 2) rfl]
    by_cases c : 0 ≤ wroteE xs t.path
    · obtain ⟨a, ha⟩ : ∃ a : Nat, wroteE xs t.path = a := ⟨(wroteE xs t.path).toNat, by omega⟩
      have hlt := wroteE_lt xs t.path
      have hal : a < mk.length := by omega
      have e : ltB (wroteE xs t.path) 0 = false := ltB_not.2 c
      have ih := marks_L1 G hW xs hb p w i d hx hrd rest (j + 1) (mk.set a true) (by simpa using hn) hxd (by omega) (by simpa [rmarkReads, c, ha] using hk)
      have hrow : (mk.map rBool.enc)[a]? = some [.bool (mk[a]'hal)] := by simp [hal]
      have hia := iadr_own (h := mHeap mk) (l := 1) (v := 0) (n := xs.length) (size := 1) (k := .i64) rfl (by simp [hn]) hrow rfl
      have hst := fun st => op_st_eptr (G := G) (s := st) (h := mHeap mk) (l := 1) (v := 0) (n := 1) (off := 0) (x := .bool true) rfl hrow rfl (by decide) rfl (by simp) rfl rfl
      have e5 : (mk.map rBool.enc).set a (setAt [AV.bool (mk[a]'hal)] 0 (AV.bool true).cells) = (mk.set a true).map rBool.enc := by rw [List.map_set]; rfl
      simp only [e5] at hst
      rw [ha] at cW e
      simp [mHeap] at hia hst
      simp [hi', hid, iadr_sl (touchRows_get hxt), cW, e, hia, hst, hw]
      refine head_of ?_
      rw [trunc_len (n := 2) rfl]
      simpa [mHeap] using ih
    · have e : ltB (wroteE xs t.path) 0 = true := ltB_iff.2 (by omega)
      have ih := marks_L1 G hW xs hb p w i d hx hrd rest (j + 1) mk hn hxd (by omega) (by simpa [rmarkReads, c] using hk)
      simp [hi', hid, iadr_sl (touchRows_get hxt), cW, e, hw]
      refine head_of ?_
      rw [trunc_len (n := 2) rfl]
      simpa [mHeap] using ih

theorem marks_L0 (G : Gam) (hW : G Fn.licitref17_wrote = some (.pure F_wrote)) (xs : List Done) (hok : okR xs = true) (p : Bs) (w : Int) {ks : List MK} {Q : MPost} :
    ∀ (i : Nat) (mk : List Bool), mk.length = xs.length → i ≤ xs.length →
    exM G .normal ks Q [(24, .bool false), (23, .int .i64 (-1))] [(0, .sl (doneRows xs)), (1, .str p), (4, .own 0 0 0), (5, .own 1 0 xs.length), (6, .int .i64 w), (7, .int .i64 (-1)), (8, .junk), (9, .junk)] (mHeap (rmarkDown xs i mk)) →
    headM G [8, 9] Mc.licitref17_marks_L0 2 (.blk 0 :: ks) Q [(0, .sl (doneRows xs)), (1, .str p), (4, .own 0 0 0), (5, .own 1 0 xs.length), (6, .int .i64 w), (7, .int .i64 ((i : Int) - 1)), (8, .junk), (9, .junk)] (mHeap mk)
  | 0, mk, hn, hi, hq => by
    refine head_go (Mc.licitref17_marks_L0.eq_1) ?_
    have e : ltB (-1) 0 = true := rfl
    simp only [rmarkDown] at hq
    rw [trunc_len (n := 2) rfl]
    simpa [e] using hq
  | i + 1, mk, hn, hi, hq => by
    have hok' := hok
    simp only [okR, Bool.and_eq_true, decide_eq_true_eq] at hok'
    have e1 : (((i + 1 : Nat) : Int) - 1) = (i : Nat) := by omega
    have e2 : ltB (i : Nat) 0 = false := ltB_not.2 (by omega)
    have hws : IntKind.i64.wrap ((i : Int) - 1) = (i : Int) - 1 := by unfold big at hok'; rw [i64_in _ (by omega)]
    rw [e1]
    have hil : i < mk.length := by omega
    have hrow : (mk.map rBool.enc)[i]? = some [.bool (mk[i]'hil)] := by simp [hil]
    have hia := iadr_own (h := mHeap mk) (l := 1) (v := 0) (n := xs.length) (size := 1) (k := .i64) rfl (by simp [hn]) hrow rfl
    have hld := ld_eptr (h := mHeap mk) (l := 1) (v := 0) (size := 1) (agg := false) (off := 0) rfl hrow
    have hmi : mk[i]? = some (mk[i]'hil) := by simp [hil]
    obtain ⟨d, hx, hxd⟩ := drop_head (xs := xs) (i := i) (by omega)
    have hrd : d.reads.length ≤ big := by
      have := List.all_eq_true.1 hok'.2 d (List.mem_of_getElem? hx)
      simp only [okD, Bool.and_eq_true, decide_eq_true_eq] at this; exact this.1.1
    have rd := fun ks Q hk => marks_L1 G hW xs hok'.1 p w i d hx hrd (ks := ks) (Q := Q) d.reads 0 mk hn rfl (by omega) hk
    simp [Done.row, mHeap] at hia hld rd
    generalize mk[i]'hil = b at hmi hia hld hrow
    refine head_go (Mc.licitref17_marks_L0.eq_1) ?_
    rw [trunc_len (n := 2) rfl]
    cases b with
    | false =>
      have ih := marks_L0 G hW xs hok p w i mk hn (by omega) (by simpa [rmarkDown, hmi] using hq)
      simp [e2, hia, hld, hws]
      refine head_of ?_
      rw [trunc_len (n := 2) rfl]
      simpa [mHeap] using ih
    | true =>
      have ih := marks_L0 G hW xs hok p w i (rmarkReads xs mk d.reads) (by rw [rmarkReads_len]; exact hn) (by omega) (by simpa [rmarkDown, hmi, hx] using hq)
      simp [e2, hia, hld]
      refine rd _ _ ?_
      simp [hws]
      refine head_of ?_
      rw [trunc_len (n := 2) rfl]
      simpa [mHeap] using ih

theorem marks_ok (G : Gam) (hW : G Fn.licitref17_wrote = some (.pure F_wrote)) : ∀ args r, F_marks args = some r → wpM G Mc.licitref17_marks (pureQ Rs.licitref17_marks r) [] (frInit Ks.licitref17_marks args) [] := F2_ok fun xs p r h => by
  split at h
  · rename_i ho
    injection h with h; subst h
    rw [wpM_go, eSl_done]
    have hb := ho
    simp only [okR, Bool.and_eq_true, decide_eq_true_eq] at hb
    have hc : ∀ st h, opV G st h (.call Fn.licitref17_wrote) (some [.sl (doneRows xs), .str p]) = some (.int .i64 (wroteE xs p), h) := fun st h => op_call hW rfl (F2_use (A := eSl rDone) (B := eStr) (R := eInt) (x := xs) (y := p) (if_pos hb.1)) (.inl rfl)
    have hmk := fun st h => op_mksl (G := G) (s := st) (h := h) (zero := [.bool false]) (bytes := 1) (n := xs.length) (k := .i64) (k' := .i64) (by have := hb.1; unfold big at this; unfold byteMax; omega) (by have := hb.1; unfold big at this; unfold byteMax; omega)
    have hrep : List.replicate xs.length [AV.bool false] = (List.replicate xs.length false).map rBool.enc := by rw [List.map_replicate]; rfl
    have hro : ∀ mk : List Bool, mk.length = xs.length → rowsOf (mHeap mk) (.own 1 0 xs.length) = some (mk.map rBool.enc) := fun mk hm => rows_own rfl (by simp [hm])
    simp only [hrep] at hmk
    by_cases c1 : wroteE xs p < 0
    · have e : ltB (wroteE xs p) 0 = true := ltB_iff.2 c1
      have hro := hro (List.replicate xs.length false) (by simp)
      simp [mHeap] at hro
      simp [Mc.licitref17_marks, frInit, Ks.licitref17_marks, hmk, hc, e, Rs.licitref17_marks, marksE, c1, eSl, hro]
    · have e : ltB (wroteE xs p) 0 = false := ltB_not.2 (by omega)
      obtain ⟨a, ha⟩ : ∃ a : Nat, wroteE xs p = a := ⟨(wroteE xs p).toNat, by omega⟩
      have hlt : a < xs.length := by have := wroteE_lt xs p; omega
      have hrow : ((List.replicate xs.length false).map rBool.enc)[a]? = some [.bool false] := by simp [hlt]
      have hia := iadr_own (h := mHeap (List.replicate xs.length false)) (l := 1) (v := 0) (n := xs.length) (size := 1) (k := .i64) rfl (by simp) hrow rfl
      have hst := fun st => op_st_eptr (G := G) (s := st) (h := mHeap (List.replicate xs.length false)) (l := 1) (v := 0) (n := 1) (off := 0) (x := .bool true) rfl hrow rfl (by decide) rfl (by simp) rfl rfl
      have e5 : ((List.replicate xs.length false).map rBool.enc).set a (setAt [AV.bool false] 0 (AV.bool true).cells) = ((List.replicate xs.length false).set a true).map rBool.enc := by rw [List.map_set]; rfl
      simp only [e5] at hst
      have hml : ((List.replicate xs.length false).set a true).length = xs.length := by simp
      have hr : marksE xs p = rmarkDown xs (a + 1) ((List.replicate xs.length false).set a true) := by unfold marksE; rw [if_neg c1, ha]; rfl
      generalize (List.replicate xs.length false).set a true = mk0 at hml hst hr
      have l0 := fun ks Q hk => marks_L0 G hW xs ho p a (ks := ks) (Q := Q) (a + 1) mk0 hml (by omega) hk
      have e6 : (((a + 1 : Nat) : Int) - 1) = a := by omega
      rw [e6] at l0
      rw [ha] at hc e
      have hro := hro (rmarkDown xs (a + 1) mk0) (by rw [rmarkDown_len]; exact hml)
      rw [hr]
      simp [mHeap] at hia hst l0 hro
      simp [Mc.licitref17_marks, frInit, Ks.licitref17_marks, hmk, hc, e, hia, hst]
      refine l0 _ _ ?_
      simp [Rs.licitref17_marks, hro, eSl]
  · cases h

/-! ### Needed -/
def refNeededE (xs : List Done) (p : Bs) : List Int := if refCheckE xs = 0 then marked 0 (marksE xs p) else []
def F_refNeeded : List AV → Option AV := F2 (eSl rDone) eStr (eSl rInt) fun xs p => if okR xs = true ∧ xs.length < big then some (refNeededE xs p) else none

theorem rNeeded_step (G : Gam) (a0 a1 : AV) (l0 : low 1 a0 = true ∧ low 1 a1 = true) (ms : List Bool) (hb : ms.length < big) (fin : List Int) :
    ∀ (rest : List Bool) (i : Nat) (o : Int) (os : List Int), ms.drop i = rest → i ≤ ms.length → os.length < i → (o :: os) ++ marked i rest = fin →
    headM G [] Mc.licitref17_Needed_L0 1 [.blk 0, .seq (.seq (.reg [⟨none, some 30, false, .mv, [.t 5]⟩, ⟨none, some 4, true, .mv, [.t 30]⟩]) .ret)] (pureQ Rs.licitref17_Needed (.sl (fin.map rInt.enc)))
    [(0, a0), (1, a1), (4, .own 0 0 0), (5, .own 1 os.length (os.length + 1)), (6, .sl (ms.map rBool.enc)), (7, .int .i64 i)] [.arr 1 0 [] true, .arr 1 os.length ((o :: os).map rInt.enc) true]
  | [], i, o, os, hd, hi, ho, hf => by
    have hi2 := drop_nil hd
    have hi' : ltB i ms.length = false := ltB_not.2 (by omega)
    simp only [marked, List.append_nil] at hf
    subst hf
    have hro : rowsOf [.arr 1 0 [] true, .arr 1 os.length ((o :: os).map rInt.enc) true] (.own 1 os.length (os.length + 1)) = some ((o :: os).map rInt.enc) := rows_own rfl (by simp)
    simp at hro
    refine head_go (Mc.licitref17_Needed_L0.eq_1) ?_
    simp [trunc, l0, hi', Rs.licitref17_Needed, hro]
  | b :: rest, i, o, os, hd, hi, ho, hf => by
    obtain ⟨hi2, hx, hxd⟩ := drop_cons hd
    have hi' : ltB i ms.length = true := ltB_iff.2 (by omega)
    have hw := wrap1 (i := i) (by omega)
    have hia := fun h => iadr_sl (h := h) (k := .i64) (rows := ms.map rBool.enc) (i := i) (row := rBool.enc b) (size := 1) (by simp [hx]) rfl
    have happ := fun st => op_app (G := G) (s := st) (h := [.arr 1 0 [] true, .arr 1 os.length ((o :: os).map rInt.enc) true]) (n := 1) (b := 8) (l := 1) (ver := os.length) (k := os.length + 1) (x := .tsl [[.int .i64 i]]) (new := [[.int .i64 i]]) (rows := (o :: os).map rInt.enc) rfl rfl (by simp) rfl (by simp) (by simp; unfold byteMax; unfold big at hb; omega) (by simp; unfold byteMax; unfold big at hb; omega)
    simp at happ
    refine head_go (Mc.licitref17_Needed_L0.eq_1) ?_
    cases b with
    | false =>
      have ih := rNeeded_step G a0 a1 l0 ms hb fin rest (i + 1) o os hxd (by omega) (by omega) (by simpa [marked] using hf)
      simp [trunc, l0, hi', hia, hw]
      refine head_of ?_
      simpa [trunc, l0] using ih
    | true =>
      have ih := rNeeded_step G a0 a1 l0 ms hb fin rest (i + 1) o (os ++ [(i : Int)]) hxd (by omega) (by simp; omega) (by rw [← hf]; simp [marked])
      simp [trunc, l0, hi', hia, hw, sizesOk, onesOk, happ]
      refine head_of ?_
      simpa [trunc, l0] using ih

theorem rNeeded_first (G : Gam) (a0 a1 : AV) (l0 : low 1 a0 = true ∧ low 1 a1 = true) (ms : List Bool) (hb : ms.length < big) (fin : List Int) :
    ∀ (rest : List Bool) (i : Nat), ms.drop i = rest → i ≤ ms.length → marked i rest = fin →
    headM G [] Mc.licitref17_Needed_L0 1 [.blk 0, .seq (.seq (.reg [⟨none, some 30, false, .mv, [.t 5]⟩, ⟨none, some 4, true, .mv, [.t 30]⟩]) .ret)] (pureQ Rs.licitref17_Needed (.sl (fin.map rInt.enc)))
    [(0, a0), (1, a1), (4, .own 0 0 0), (5, .tsl []), (6, .sl (ms.map rBool.enc)), (7, .int .i64 i)] [.arr 1 0 [] true]
  | [], i, hd, hi, hf => by
    have hi2 := drop_nil hd
    have hi' : ltB i ms.length = false := ltB_not.2 (by omega)
    simp only [marked] at hf
    subst hf
    refine head_go (Mc.licitref17_Needed_L0.eq_1) ?_
    rw [trunc_len (n := 1) rfl]
    simp [hi', Rs.licitref17_Needed]
  | b :: rest, i, hd, hi, hf => by
    obtain ⟨hi2, hx, hxd⟩ := drop_cons hd
    have hi' : ltB i ms.length = true := ltB_iff.2 (by omega)
    have hw := wrap1 (i := i) (by omega)
    have hia := fun h => iadr_sl (h := h) (k := .i64) (rows := ms.map rBool.enc) (i := i) (row := rBool.enc b) (size := 1) (by simp [hx]) rfl
    have happ := fun st => op_app_tsl (G := G) (s := st) (h := [.arr 1 0 [] true]) (n := 1) (b := 8) (x := .tsl [[.int .i64 i]]) (new := [[.int .i64 i]]) (rows := []) rfl rfl rfl (by simp) (by simp; unfold byteMax; omega) (by simp; unfold byteMax; omega)
    simp at happ
    refine head_go (Mc.licitref17_Needed_L0.eq_1) ?_
    rw [trunc_len (n := 1) rfl]
    cases b with
    | false =>
      have ih := rNeeded_first G a0 a1 l0 ms hb fin rest (i + 1) hxd (by omega) (by simpa [marked] using hf)
      simp [hi', hia, hw]
      refine head_of ?_
      rw [trunc_len (n := 1) rfl]
      simpa using ih
    | true =>
      have ih := rNeeded_step G a0 a1 l0 ms hb fin rest (i + 1) (i : Int) [] hxd (by omega) (by simp) (by rw [← hf]; simp [marked])
      simp [hi', hia, hw, sizesOk, onesOk, happ]
      refine head_of ?_
      simpa [trunc, l0] using ih

theorem refNeeded_ok (G : Gam) (hC : G Fn.licitref17_Check = some (.pure F_refCheck)) (hM : G Fn.licitref17_marks = some (.pure F_marks)) : ∀ args r, F_refNeeded args = some r → wpM G Mc.licitref17_Needed (pureQ Rs.licitref17_Needed r) [] (frInit Ks.licitref17_Needed args) [] := F2_ok fun xs p r h => by
  split at h
  · rename_i ho
    injection h with h; subst h
    rw [wpM_go, eSl_done]
    have hc : ∀ st h, opV G st h (.call Fn.licitref17_Check) (some [.sl (doneRows xs)]) = some (.int .i64 (refCheckE xs), h) := fun st h => op_call hC rfl (F1_use (A := eSl rDone) (R := eInt) (x := xs) (if_pos ho.1)) (.inl rfl)
    have hm : ∀ st h, opV G st h (.call Fn.licitref17_marks) (some [.sl (doneRows xs), .str p]) = some (.sl ((marksE xs p).map rBool.enc), h) := fun st h => op_call hM rfl (F2_use (A := eSl rDone) (B := eStr) (R := eSl rBool) (x := xs) (y := p) (if_pos ho.1)) (.inr rfl)
    have hl := marksE_len xs p
    by_cases c1 : refCheckE xs = 0
    · have ih := rNeeded_first G (.sl (doneRows xs)) (.str p) ⟨rfl, rfl⟩ (marksE xs p) (by omega) _ (marksE xs p) 0 rfl (by omega) rfl
      simpa [Mc.licitref17_Needed, frInit, Ks.licitref17_Needed, hc, c1, hm, refNeededE, eSl] using ih
    · have e : eqB (refCheckE xs) 0 = false := eqB_not.2 c1
      simp [Mc.licitref17_Needed, frInit, Ks.licitref17_Needed, hc, e, refNeededE, c1, Rs.licitref17_Needed, eSl]
  · cases h

end Go.Proofs.YtmjdgpiofhildaaDoor

namespace Go.Proofs.YtmjdgpiofhildaaDoor
open Go.RowKit Go.IntWalk

theorem op_slc_lo {G : Gam} {s : Bool} {h : Heap} {w a : Nat} {rows : List (List AV)} {k : IntKind} (h1 : a ≤ rows.length) (h2 : sizesOk w rows = true) : opV G s h (.slc (some w) true false false) (some [.sl rows, .int k a]) = some (.sl (rows.drop a), h) := by
  rw [opV_quiet rfl]
  have h1' : (a : Int) ≤ rows.length := by omega
  simp [evalPure, slcArgs, slc1, slcAV, slcRows, h1, h2]

def skipS (s : Bs) : List Bs → Nat
  | [] => 0
  | x :: r => if Op.bytesLess x s then skipS s r + 1 else 0
theorem skipS_le (s : Bs) : ∀ l : List Bs, skipS s l ≤ l.length
  | [] => Nat.le_refl _
  | x :: r => by
    have := skipS_le s r
    unfold skipS; split <;> simp <;> omega
def insS (s : Bs) (l : List Bs) : List Bs := if l[skipS s l]? = some s then l else l.take (skipS s l) ++ s :: l.drop (skipS s l)
def F_Insert : List AV → Option AV := F2 (eSl rStr) eStr (eSl rStr) fun l s => if l.length < big then some (insS s l) else none

theorem Insert_loop (G : Gam) (l : List Bs) (s : Bs) (hb : l.length < big) {ks : List MK} {Q : MPost} : ∀ (rest : List Bs) (k : Nat), l.drop k = rest → k ≤ l.length →
    (∀ env, exM G .normal ks Q env [(0, .sl (l.map rStr.enc)), (1, .str s), (4, .own 0 0 0), (5, .int .i64 ((k + skipS s rest : Nat) : Int)), (6, .junk)] [.arr 1 0 [] true]) →
    headM G [] Mc.licitref17_Insert_L0 1 (.blk 0 :: ks) Q [(0, .sl (l.map rStr.enc)), (1, .str s), (4, .own 0 0 0), (5, .int .i64 k), (6, .junk)] [.arr 1 0 [] true]
  | [], k, hd, hk, hq => by
    have hi := drop_nil hd
    have hi' : ltB k l.length = false := ltB_not.2 (by omega)
    refine head_go (Mc.licitref17_Insert_L0.eq_1) ?_
    rw [trunc_len (n := 1) rfl]
    simp only [skipS, Nat.add_zero] at hq
    simp [hi']
    exact hq _
  | x :: rest, k, hd, hk, hq => by
    obtain ⟨hi, hx, hxd⟩ := drop_cons hd
    have hi' : ltB k l.length = true := ltB_iff.2 (by omega)
    have hw := wrap1 (i := k) (by omega)
    have hia := fun h => iadr_sl (h := h) (k := .i64) (rows := l.map rStr.enc) (i := k) (row := rStr.enc x) (size := 1) (by simp [hx]) rfl
    refine head_go (Mc.licitref17_Insert_L0.eq_1) ?_
    rw [trunc_len (n := 1) rfl]
    cases c : Op.bytesLess x s with
    | true =>
      have ih := Insert_loop G l s hb (ks := ks) (Q := Q) rest (k + 1) hxd (by omega) (fun env => by
        have := hq env
        simp only [skipS, c, if_true] at this
        rwa [show k + 1 + skipS s rest = k + (skipS s rest + 1) by omega])
      simp [hi', hia, c, hw]
      refine head_of ?_
      rw [trunc_len (n := 1) rfl]
      simpa using ih
    | false =>
      simp only [skipS, c, Bool.false_eq_true, if_false, Nat.add_zero] at hq
      simp [hi', hia, c]
      exact hq _

theorem Insert_ok (G : Gam) : ∀ args r, F_Insert args = some r → wpM G Mc.licitref17_Insert (pureQ Rs.licitref17_Insert r) [] (frInit Ks.licitref17_Insert args) [] := F2_ok fun l s r h => by
  split at h
  · rename_i hb
    injection h with h; subst h
    rw [wpM_go]
    have hsk := skipS_le s l
    have lp := fun ks Q hq => Insert_loop G l s hb (ks := ks) (Q := Q) l 0 rfl (by omega) hq
    unfold insS
    generalize skipS s l = k at hsk lp
    simp at lp
    simp [Mc.licitref17_Insert, frInit, Ks.licitref17_Insert, eSl]
    refine lp _ _ (fun env => ?_)
    have hslc := fun st h => op_slc_hi (G := G) (s := st) (h := h) (w := 1) (a := k) (k := .i64) (rows := l.map rStr.enc) (by simpa using hsk) (sizesOk_map (e := rStr.enc) (fun _ => rfl) l)
    have hslo := fun st h => op_slc_lo (G := G) (s := st) (h := h) (w := 1) (a := k) (k := .i64) (rows := l.map rStr.enc) (by simpa using hsk) (sizesOk_map (e := rStr.enc) (fun _ => rfl) l)
    rw [← List.map_take] at hslc
    rw [← List.map_drop] at hslo
    -- the parts
    have tail : l[k]? ≠ some s → goM G (.seq (.reg [⟨none, some 34, false, .bsl false 1, []⟩, ⟨none, some 35, false, .mv, [.t 0]⟩, ⟨none, some 36, false, .mv, [.t 5]⟩, ⟨none, some 37, false, .slc (some 1) false true false, [.t 35, .t 36]⟩, ⟨none, some 38, false, .app false 1 16, [.t 34, .t 37]⟩, ⟨none, some 6, true, .mv, [.t 38]⟩])
        (.seq (.reg [⟨none, some 39, false, .mv, [.t 6]⟩, ⟨none, some 40, false, .mv, [.t 1]⟩, ⟨none, some 41, false, .bsl false 1, [.t 40]⟩, ⟨none, some 42, false, .app false 1 16, [.t 39, .t 41]⟩, ⟨none, some 6, true, .mv, [.t 42]⟩])
        (.seq (.reg [⟨none, some 43, false, .mv, [.t 6]⟩, ⟨none, some 44, false, .mv, [.t 0]⟩, ⟨none, some 45, false, .mv, [.t 5]⟩, ⟨none, some 46, false, .slc (some 1) true false false, [.t 44, .t 45]⟩, ⟨none, some 47, false, .app false 1 16, [.t 43, .t 46]⟩, ⟨none, some 4, true, .mv, [.t 47]⟩]) .ret)))
        [] (pureQ Rs.licitref17_Insert (.sl ((l.take k ++ s :: l.drop k).map rStr.enc))) [] [(0, .sl (l.map rStr.enc)), (1, .str s), (4, .own 0 0 0), (5, .int .i64 k), (6, .junk)] [.arr 1 0 [] true] := by
      intro _
      have hTl : (l.take k).length = k := by simp; omega
      have hDl : (l.drop k).length = l.length - k := by simp
      have hD0 : l.drop k = [] ∨ l.drop k ≠ [] := by by_cases h : l.drop k = [] <;> simp [h]
      generalize hT : l.take k = T at hTl hslc ⊢
      generalize hD : l.drop k = D at hDl hD0 hslo ⊢
      cases k with
      | zero =>
        have hT0 : T = [] := List.length_eq_zero_iff.1 hTl
        subst hT0
        have a1 := fun st h => op_app_tsl0 (G := G) (s := st) (h := h) (n := 1) (b := 16) (x := .sl []) (rows := []) rfl
        have a2 := fun st => op_app_tsl (G := G) (s := st) (h := [.arr 1 0 [] true]) (n := 1) (b := 16) (x := .tsl [[.str s]]) (new := [[.str s]]) (rows := []) rfl rfl rfl (by simp) (by simp; unfold byteMax; omega) (by simp; unfold byteMax; omega)
        simp at a2 hslc hslo
        rcases hD0 with hD0 | hD0
        · subst hD0
          have a3 := fun st => op_app_own0 (G := G) (s := st) (h := [.arr 1 0 [] true, .arr 1 0 [[.str s]] true]) (n := 1) (b := 16) (l := 1) (v := 0) (k := 1) (x := .sl []) (rows := [[.str s]]) rfl rfl rfl
          simp at hslo
          simp [hslc, hslo, a1, a2, a3, sizesOk, onesOk, Rs.licitref17_Insert, rowsOf]
        · have a3 := fun st => op_app (G := G) (s := st) (h := [.arr 1 0 [] true, .arr 1 0 [[.str s]] true]) (n := 1) (b := 16) (l := 1) (ver := 0) (k := 1) (x := .sl (D.map rStr.enc)) (new := D.map rStr.enc) (rows := [[.str s]]) rfl rfl rfl (sizesOk_map (e := rStr.enc) (fun _ => rfl) D) (by simpa using hD0) (by simp; unfold byteMax; unfold big at hb; omega) (by simp; unfold byteMax; unfold big at hb; omega)
          simp at a3
          have hro : rowsOf [.arr 1 0 [] true, .arr 1 D.length ([.str s] :: D.map rStr.enc) true] (.own 1 D.length (1 + D.length)) = some ([.str s] :: D.map rStr.enc) := rows_own rfl (by simp; omega)
          simp [hslc, hslo, a1, a2, a3, sizesOk, onesOk, Rs.licitref17_Insert, hro]
      | succ k =>
        have hTne : T ≠ [] := fun e => by rw [e] at hTl; simp at hTl
        have a1 := fun st => op_app_tsl (G := G) (s := st) (h := [.arr 1 0 [] true]) (n := 1) (b := 16) (x := .sl (T.map rStr.enc)) (new := T.map rStr.enc) (rows := []) rfl (sizesOk_map (e := rStr.enc) (fun _ => rfl) T) rfl (by simpa using hTne) (by simp; unfold byteMax; unfold big at hb; omega) (by simp; unfold byteMax; unfold big at hb; omega)
        have a2 := fun st => op_app (G := G) (s := st) (h := [.arr 1 0 [] true, .arr 1 0 (T.map rStr.enc) true]) (n := 1) (b := 16) (l := 1) (ver := 0) (k := T.length) (x := .tsl [[.str s]]) (new := [[.str s]]) (rows := T.map rStr.enc) rfl rfl (by simp) rfl (by simp) (by simp; unfold byteMax; unfold big at hb; omega) (by simp; unfold byteMax; unfold big at hb; omega)
        simp at a1 a2
        rcases hD0 with hD0 | hD0
        · subst hD0
          have a3 := fun st => op_app_own0 (G := G) (s := st) (h := [.arr 1 0 [] true, .arr 1 1 (T.map rStr.enc ++ [[.str s]]) true]) (n := 1) (b := 16) (l := 1) (v := 1) (k := T.length + 1) (x := .sl []) (rows := T.map rStr.enc ++ [[.str s]]) rfl rfl (by simp)
          have hro : rowsOf [.arr 1 0 [] true, .arr 1 1 (T.map rStr.enc ++ [[.str s]]) true] (.own 1 1 (T.length + 1)) = some (T.map rStr.enc ++ [[.str s]]) := rows_own rfl (by simp)
          simp at hslo hslc
          simp [hslc, hslo, a1, a2, a3, sizesOk, onesOk, Rs.licitref17_Insert, hro]
        · have a3 := fun st => op_app (G := G) (s := st) (h := [.arr 1 0 [] true, .arr 1 1 (T.map rStr.enc ++ [[.str s]]) true]) (n := 1) (b := 16) (l := 1) (ver := 1) (k := T.length + 1) (x := .sl (D.map rStr.enc)) (new := D.map rStr.enc) (rows := T.map rStr.enc ++ [[.str s]]) rfl rfl (by simp) (sizesOk_map (e := rStr.enc) (fun _ => rfl) D) (by simpa using hD0) (by simp; unfold byteMax; unfold big at hb; omega) (by simp; unfold byteMax; unfold big at hb; omega)
          simp at a3
          have hro : rowsOf [.arr 1 0 [] true, .arr 1 (1 + D.length) (T.map rStr.enc ++ [.str s] :: D.map rStr.enc) true] (.own 1 (1 + D.length) (T.length + 1 + D.length)) = some (T.map rStr.enc ++ [.str s] :: D.map rStr.enc) := rows_own rfl (by simp; omega)
          simp at hslo hslc
          simp [hslc, hslo, a1, a2, a3, sizesOk, onesOk, Rs.licitref17_Insert, hro]
    rcases Nat.lt_or_ge k l.length with hk | hk
    · have hi' : ltB k l.length = true := ltB_iff.2 (by omega)
      have hx : l[k]? = some (l[k]'hk) := by simp [hk]
      generalize l[k]'hk = x at hx
      have hia := fun h => iadr_sl (h := h) (k := .i64) (rows := l.map rStr.enc) (i := k) (row := rStr.enc x) (size := 1) (by simp [hx]) rfl
      by_cases c : x = s
      · subst c
        simp [hx, hi', hia, Rs.licitref17_Insert]
      · have c' : (x == s) = false := by simp [c]
        have hne : l[k]? ≠ some s := by rw [hx]; simpa using c
        have tl := tail hne
        rw [if_neg hne]
        simp [hi', hia, c'] at tl ⊢
        simpa using tl
    · have hi' : ltB k l.length = false := ltB_not.2 (by omega)
      have hne : l[k]? ≠ some s := by rw [List.getElem?_eq_none hk]; simp
      have tl := tail hne
      rw [if_neg hne]
      simp [hi'] at tl ⊢
      simpa using tl
  · cases h

/-! ### Sources -/
def rsrcReads (xs : List Done) (os : List Bs) : List Touch → List Bs
  | [] => os
  | t :: ts => rsrcReads xs (if wroteE xs t.path < 0 then insS t.path os else os) ts
def rsrcAll (xs : List Done) (os : List Bs) : List Bool → List Done → List Bs
  | b :: bs, d :: ds => rsrcAll xs (if b then rsrcReads xs os d.reads else os) bs ds
  | _, _ => os
def refSourcesE (xs : List Done) (p : Bs) : List Bs := if refCheckE xs = 0 then rsrcAll xs [] (marksE xs p) xs else []
def F_refSources : List AV → Option AV := F2 (eSl rDone) eStr (eSl rStr) fun xs p => if okS xs then some (refSourcesE xs p) else none

theorem insS_len (s : Bs) (l : List Bs) : (insS s l).length ≤ l.length + 1 := by
  unfold insS; split
  · omega
  · have := skipS_le s l; simp; omega
/-- What holds a list of strings that has been made. -/
structure OutS (o : AV) (os : List Bs) : Prop where
  v : ∀ h, view h o = some (.sl (os.map rStr.enc))
  w : owns o = []
  l : low 1 o = true
theorem OutS.nil : OutS (.tsl []) [] := ⟨fun _ => rfl, rfl, rfl⟩
theorem OutS.sl (os : List Bs) : OutS (.sl (os.map rStr.enc)) os := ⟨fun _ => rfl, rfl, rfl⟩

theorem rSrc_L1 (G : Gam) (hW : G Fn.licitref17_wrote = some (.pure F_wrote)) (hI : G Fn.licitref17_Insert = some (.pure F_Insert)) (xs : List Done) (hb : xs.length ≤ big) (a1 : AV) (l1 : low 1 a1 = true) (ms : List Bool) (i : Nat) (d : Done) (hx : xs[i]? = some d) (hm : ms[i]? = some true) (hrd : d.reads.length ≤ big) (R : Nat) {ks : List MK} {Q : MPost} (fin : List Bs)
    (hk : ∀ env o, OutS o fin → exM G .normal ks Q env [(0, .sl (doneRows xs)), (1, a1), (4, .own 0 0 0), (5, o), (6, .sl (ms.map rBool.enc)), (7, .int .i64 i), (8, .int .i64 d.reads.length)] [.arr 1 0 [] true]) :
    ∀ (rest : List Touch) (j : Nat) (os : List Bs) (o : AV), OutS o os → d.reads.drop j = rest → j ≤ d.reads.length → os.length + rest.length < big → rsrcReads xs os rest = fin →
    headM G [] Mc.licitref17_Sources_L1 1 (.blk 2 :: ks) Q [(0, .sl (doneRows xs)), (1, a1), (4, .own 0 0 0), (5, o), (6, .sl (ms.map rBool.enc)), (7, .int .i64 i), (8, .int .i64 j)] [.arr 1 0 [] true]
  | [], j, os, o, ho, hd, hj, hl, hf => by
    have hi2 := drop_nil hd
    have e : j = d.reads.length := by omega
    have hid := fun h => iadr_sl (h := h) (k := .i64) (doneRows_get hx) d.row_len
    have hia := fun h => iadr_sl (h := h) (k := .i64) (rows := ms.map rBool.enc) (i := i) (row := rBool.enc true) (size := 1) (by simp [hm]) rfl
    simp only [rsrcReads] at hf; subst hf
    simp only [Done.row] at hid
    refine head_go (Mc.licitref17_Sources_L1.eq_1) ?_
    rw [trunc_len (n := 1) rfl]
    simp [hia, hid, e]
    have := hk
    exact hk _ _ ho
  | t :: rest, j, os, o, ho, hd, hj, hl, hf => by
    obtain ⟨hi2, hxt, hxd⟩ := drop_cons hd
    have hi' : ltB j d.reads.length = true := ltB_iff.2 (by omega)
    have hw := wrap1 (i := j) (by omega)
    have hid := fun h => iadr_sl (h := h) (k := .i64) (doneRows_get hx) d.row_len
    have hia := fun h => iadr_sl (h := h) (k := .i64) (rows := ms.map rBool.enc) (i := i) (row := rBool.enc true) (size := 1) (by simp [hm]) rfl
    have cW : ∀ st h, opV G st h (.call Fn.licitref17_wrote) (some [.sl (doneRows xs), .str t.path]) = some (.int .i64 (wroteE xs t.path), h) := fun st h => op_call hW rfl (F2_use (A := eSl rDone) (B := eStr) (R := eInt) (x := xs) (y := t.path) (if_pos hb)) (.inl rfl)
    have cI : ∀ st h, opV G st h (.call Fn.licitref17_Insert) (some [o, .str t.path]) = some (.sl ((insS t.path os).map rStr.enc), h) := fun st h => op_call hI (us := [.sl (os.map rStr.enc), .str t.path]) (by simp [ho.v h]) (F2_use (A := eSl rStr) (B := eStr) (R := eSl rStr) (x := os) (y := t.path) (if_pos (by simp at hl; omega))) (.inr (by simp [ho.w]))
    simp only [Done.row] at hid
    simp only [rsrcReads] at hf
    refine head_go (Mc.licitref17_Sources_L1.eq_1) ?_
    rw [trunc_len (n := 1) rfl]
    by_cases c : wroteE xs t.path < 0
    · have e : ltB (wroteE xs t.path) 0 = true := ltB_iff.2 c
      simp only [c, if_true] at hf
      have hl2 := insS_len t.path os
      have ih := rSrc_L1 G hW hI xs hb a1 l1 ms i d hx hm hrd R fin hk rest (j + 1) (insS t.path os) _ (OutS.sl _) hxd (by omega) (by simp at hl; omega) hf
      simp [hia, hid, hi', iadr_sl (touchRows_get hxt), cW, e, cI, hw]
      refine head_of ?_
      rw [trunc_len (n := 1) rfl]
      simpa using ih
    · have e : ltB (wroteE xs t.path) 0 = false := ltB_not.2 (by omega)
      simp only [c, if_false] at hf
      have ih := rSrc_L1 G hW hI xs hb a1 l1 ms i d hx hm hrd R fin hk rest (j + 1) os o ho hxd (by omega) (by simp at hl; omega) hf
      simp [hia, hid, hi', iadr_sl (touchRows_get hxt), cW, e, hw]
      refine head_of ?_
      rw [trunc_len (n := 1) rfl]
      simpa using ih

theorem rsrcReads_len (xs : List Done) : ∀ (ts : List Touch) (os : List Bs), (rsrcReads xs os ts).length ≤ os.length + ts.length
  | [], os => by simp [rsrcReads]
  | t :: ts, os => by
    have := rsrcReads_len xs ts (if wroteE xs t.path < 0 then insS t.path os else os)
    have h2 := insS_len t.path os
    unfold rsrcReads
    split at this <;> split <;> simp_all <;> omega

theorem rSrc_L0 (G : Gam) (hW : G Fn.licitref17_wrote = some (.pure F_wrote)) (hI : G Fn.licitref17_Insert = some (.pure F_Insert)) (xs : List Done) (hok : okR xs = true) (a1 : AV) (l1 : low 1 a1 = true) (ms : List Bool) (hms : ms.length = xs.length) (fin : List Bs) :
    ∀ (rest : List Bool) (drest : List Done) (i : Nat) (os : List Bs) (o : AV), OutS o os → ms.drop i = rest → xs.drop i = drest → i ≤ xs.length → os.length + readsSum drest < big → rsrcAll xs os rest drest = fin →
    headM G [8] Mc.licitref17_Sources_L0 1 [.blk 0, .seq (.seq (.reg [⟨none, some 62, false, .mv, [.t 5]⟩, ⟨none, some 4, true, .mv, [.t 62]⟩]) .ret)] (pureQ Rs.licitref17_Sources (.sl (fin.map rStr.enc)))
    [(0, .sl (doneRows xs)), (1, a1), (4, .own 0 0 0), (5, o), (6, .sl (ms.map rBool.enc)), (7, .int .i64 i), (8, .junk)] [.arr 1 0 [] true]
  | [], drest, i, os, o, ho, hd, hdd, hi, hl, hf => by
    have hi2 := drop_nil hd
    have hi' : ltB i xs.length = false := ltB_not.2 (by omega)
    have : rsrcAll xs os [] drest = os := by cases drest <;> rfl
    rw [this] at hf; subst hf
    refine head_go (Mc.licitref17_Sources_L0.eq_1) ?_
    rw [trunc_len (n := 1) rfl]
    simp [hi', Rs.licitref17_Sources, ho.v]
  | b :: rest, [], i, os, o, ho, hd, hdd, hi, hl, hf => by
    obtain ⟨hi2, _, _⟩ := drop_cons hd
    have := drop_nil hdd
    omega
  | b :: rest, d :: drest, i, os, o, ho, hd, hdd, hi, hl, hf => by
    obtain ⟨hi2, hx, hxd⟩ := drop_cons hd
    obtain ⟨_, hdx, hdxd⟩ := drop_cons hdd
    have hok' := hok
    simp only [okR, Bool.and_eq_true, decide_eq_true_eq] at hok'
    have hrd : d.reads.length ≤ big := by
      have := List.all_eq_true.1 hok'.2 d (List.mem_of_getElem? hdx)
      simp only [okD, Bool.and_eq_true, decide_eq_true_eq] at this; exact this.1.1
    have hi' : ltB i xs.length = true := ltB_iff.2 (by omega)
    have hw := wrap1 (i := i) (by omega)
    have hia := fun h => iadr_sl (h := h) (k := .i64) (rows := ms.map rBool.enc) (i := i) (row := rBool.enc b) (size := 1) (by simp [hx]) rfl
    simp only [readsSum] at hl
    simp only [rsrcAll] at hf
    refine head_go (Mc.licitref17_Sources_L0.eq_1) ?_
    rw [trunc_len (n := 1) rfl]
    cases b with
    | false =>
      have ih := rSrc_L0 G hW hI xs hok a1 l1 ms hms fin rest drest (i + 1) os o ho hxd hdxd (by omega) (by omega) (by simpa using hf)
      simp [hi']
      refine head_go (Mc.licitref17_Sources_L1.eq_1) ?_
      rw [trunc_len (n := 1) rfl]
      simp [hia, hw]
      refine head_of ?_
      rw [trunc_len (n := 1) rfl]
      simpa using ih
    | true =>
      have hl2 := rsrcReads_len xs d.reads os
      have l1' := fun ks Q hk => rSrc_L1 G hW hI xs hok'.1 a1 l1 ms i d hdx hx hrd 0 (ks := ks) (Q := Q) (rsrcReads xs os d.reads) hk d.reads 0 os o ho rfl (by omega) (by omega) rfl
      simp at l1'
      simp [hi']
      refine l1' _ _ (fun env o' ho' => ?_)
      have ih := rSrc_L0 G hW hI xs hok a1 l1 ms hms fin rest drest (i + 1) (rsrcReads xs os d.reads) o' ho' hxd hdxd (by omega) (by omega) (by simpa using hf)
      simp [hw]
      refine head_of ?_
      rw [trunc_len (n := 1) rfl]
      simpa using ih

theorem refSources_ok (G : Gam) (hC : G Fn.licitref17_Check = some (.pure F_refCheck)) (hM : G Fn.licitref17_marks = some (.pure F_marks)) (hW : G Fn.licitref17_wrote = some (.pure F_wrote)) (hI : G Fn.licitref17_Insert = some (.pure F_Insert)) : ∀ args r, F_refSources args = some r → wpM G Mc.licitref17_Sources (pureQ Rs.licitref17_Sources r) [] (frInit Ks.licitref17_Sources args) [] := F2_ok fun xs p r h => by
  split at h
  · rename_i ho
    injection h with h; subst h
    simp only [okS, Bool.and_eq_true, decide_eq_true_eq] at ho
    rw [wpM_go, eSl_done]
    have hc : ∀ st h, opV G st h (.call Fn.licitref17_Check) (some [.sl (doneRows xs)]) = some (.int .i64 (refCheckE xs), h) := fun st h => op_call hC rfl (F1_use (A := eSl rDone) (R := eInt) (x := xs) (if_pos ho.1)) (.inl rfl)
    have hm : ∀ st h, opV G st h (.call Fn.licitref17_marks) (some [.sl (doneRows xs), .str p]) = some (.sl ((marksE xs p).map rBool.enc), h) := fun st h => op_call hM rfl (F2_use (A := eSl rDone) (B := eStr) (R := eSl rBool) (x := xs) (y := p) (if_pos ho.1)) (.inr rfl)
    by_cases c1 : refCheckE xs = 0
    · have ih := rSrc_L0 G hW hI xs ho.1 (.str p) rfl (marksE xs p) (marksE_len xs p) _ (marksE xs p) xs 0 [] (.tsl []) OutS.nil rfl rfl (by omega) (by simpa using ho.2) rfl
      simpa [Mc.licitref17_Sources, frInit, Ks.licitref17_Sources, hc, c1, hm, refSourcesE, eSl] using ih
    · have e : eqB (refCheckE xs) 0 = false := eqB_not.2 c1
      simp [Mc.licitref17_Sources, frInit, Ks.licitref17_Sources, hc, e, refSourcesE, c1, Rs.licitref17_Sources, eSl]
  · cases h

end Go.Proofs.YtmjdgpiofhildaaDoor

namespace Go.Proofs.YtmjdgpiofhildaaDoor
open Go.RowKit Go.IntWalk

/-! ### Lists in order -/
theorem insS_nil (s : Bs) : insS s [] = [s] := rfl
theorem insS_cons (s x : Bs) (r : List Bs) : insS s (x :: r) = if Op.bytesLess x s then x :: insS s r else if x = s then x :: r else s :: x :: r := by
  unfold insS
  by_cases c : Op.bytesLess x s = true
  · have e : skipS s (x :: r) = skipS s r + 1 := by simp [skipS, c]
    rw [e, if_pos c]
    simp only [List.getElem?_cons_succ, List.take_succ_cons, List.drop_succ_cons, List.cons_append]
    split <;> rfl
  · have e : skipS s (x :: r) = 0 := by simp [skipS, c]
    rw [e, if_neg c]
    simp
theorem insS_mem (s : Bs) : ∀ (l : List Bs) (x : Bs), x ∈ insS s l ↔ x = s ∨ x ∈ l
  | [], x => by simp [insS_nil]
  | y :: r, x => by
    rw [insS_cons]
    cases c : Op.bytesLess y s with
    | true =>
      simp only [if_true, List.mem_cons, insS_mem s r x]
      constructor
      · rintro (h | h | h) <;> simp [h]
      · rintro (h | h | h) <;> simp [h]
    | false =>
      simp only [Bool.false_eq_true, if_false]
      by_cases e : y = s
      · subst e; simp
      · simp [e]
theorem insS_sorted (s : Bs) : ∀ l : List Bs, l.Pairwise (· < ·) → (insS s l).Pairwise (· < ·)
  | [], _ => by simp [insS_nil]
  | y :: r, h => by
    obtain ⟨h1, h2⟩ := List.pairwise_cons.1 h
    rw [insS_cons, bytesLess_eq]
    by_cases c : y < s
    · simp only [c, decide_true, if_true]
      refine List.pairwise_cons.2 ⟨fun x hx => ?_, insS_sorted s r h2⟩
      rcases (insS_mem s r x).1 hx with e | e
      · subst e; exact c
      · exact h1 x e
    · simp only [c, decide_false, Bool.false_eq_true, if_false]
      by_cases e : y = s
      · simp only [e, if_true]; rw [e] at h; exact h
      · simp only [e, if_false]
        have hs : s < y := by
          rcases List.le_total s y with g | g
          · exact Std.lt_of_le_of_ne g (fun q => e q.symm)
          · exact absurd (Std.lt_of_le_of_ne g e) c
        refine List.pairwise_cons.2 ⟨fun x hx => ?_, h⟩
        rcases List.mem_cons.1 hx with q | q
        · subst q; exact hs
        · exact List.lt_trans hs (h1 x q)
theorem sorted_ext : ∀ (l1 l2 : List Bs), l1.Pairwise (· < ·) → l2.Pairwise (· < ·) → (∀ x, x ∈ l1 ↔ x ∈ l2) → l1 = l2
  | [], [], _, _, _ => rfl
  | [], b :: l2, _, _, h => by have := (h b).2 (by simp); simp at this
  | a :: l1, [], _, _, h => by have := (h a).1 (by simp); simp at this
  | a :: l1, b :: l2, h1, h2, h => by
    obtain ⟨a1, a2⟩ := List.pairwise_cons.1 h1
    obtain ⟨b1, b2⟩ := List.pairwise_cons.1 h2
    have e : a = b := by
      rcases List.mem_cons.1 ((h a).1 (by simp)) with g | g
      · exact g
      · rcases List.mem_cons.1 ((h b).2 (by simp)) with k | k
        · exact k.symm
        · exact absurd (List.lt_trans (a1 b k) (b1 a g)) (List.lt_irrefl a)
    subst e
    congr 1
    refine sorted_ext l1 l2 a2 b2 fun x => ⟨fun hx => ?_, fun hx => ?_⟩
    · rcases List.mem_cons.1 ((h x).1 (List.mem_cons_of_mem _ hx)) with g | g
      · subst g; exact absurd (a1 x hx) (List.lt_irrefl x)
      · exact g
    · rcases List.mem_cons.1 ((h x).2 (List.mem_cons_of_mem _ hx)) with g | g
      · subst g; exact absurd (b1 x hx) (List.lt_irrefl x)
      · exact g

theorem compact_up (zs : List Bs) (hs : zs.Pairwise (· ≤ ·)) : ∀ m, m ≤ zs.length → (Lib.compactUpTo zs.toArray m).Pairwise (· < ·) ∧ ∀ x, x ∈ Lib.compactUpTo zs.toArray m ↔ x ∈ zs.take m
  | 0, _ => by simp [Lib.compactUpTo]
  | m + 1, hm => by
    obtain ⟨i1, i2⟩ := compact_up zs hs m (by omega)
    have hml : m < zs.length := by omega
    have hg : zs.toArray[m]! = zs[m] := by simp [hml]
    have ht : zs.take (m + 1) = zs.take m ++ [zs[m]] := by rw [List.take_succ_eq_append_getElem hml]
    rw [Lib.compactUpTo_succ, ht, hg]
    by_cases hk : Lib.keeps zs.toArray m = true
    · simp only [hk, if_true]
      refine ⟨List.pairwise_append.2 ⟨i1, by simp, fun a ha b hb => ?_⟩, fun x => by rw [List.mem_append, List.mem_append, i2 x]⟩
      obtain rfl : b = zs[m] := by simpa using hb
      have ha' := (i2 a).1 ha
      obtain ⟨j, hj, rfl⟩ := List.getElem_of_mem ha'
      simp only [List.length_take] at hj
      simp only [List.getElem_take]
      have hm0 : m ≠ 0 := by omega
      have hg1 : zs.toArray[m - 1]! = zs[m - 1] := by rw [getElem!_pos zs.toArray (m - 1) (by simp; omega)]; simp
      simp only [Lib.keeps, hg, hg1, decide_eq_true_eq] at hk
      have hne : zs[m] ≠ zs[m - 1] := by rcases hk with h | h; exact absurd h hm0; exact h
      have hle : ∀ a b, (ha : a < zs.length) → (hb : b < zs.length) → a < b → zs[a] ≤ zs[b] := fun a b ha hb hab => (List.pairwise_iff_getElem.1 hs) a b ha hb hab
      have l1 : zs[m - 1] < zs[m] := Std.lt_of_le_of_ne (hle _ _ _ _ (by omega)) hne.symm
      rcases Nat.lt_or_ge j (m - 1) with c | c
      · exact Std.lt_of_le_of_lt (hle j (m - 1) (by omega) (by omega) c) l1
      · have : j = m - 1 := by omega
        subst this; exact l1
    · simp only [hk, Bool.false_eq_true, if_false, List.append_nil]
      refine ⟨i1, fun x => ?_⟩
      rw [i2 x, List.mem_append]
      refine ⟨.inl, fun h => ?_⟩
      rcases h with h | h
      · exact h
      · obtain rfl : x = zs[m] := by simpa using h
        have hm0 : m ≠ 0 := fun e => hk (by simp [Lib.keeps, e])
        have hg1 : zs.toArray[m - 1]! = zs[m - 1] := by rw [getElem!_pos zs.toArray (m - 1) (by simp; omega)]; simp
        have e : zs[m] = zs[m - 1] := by
          by_cases q : zs[m] = zs[m - 1]
          · exact q
          · exact absurd (by simp [Lib.keeps, hg, hg1, q]) hk
        rw [e]
        exact List.mem_take_iff_getElem.2 ⟨m - 1, by omega, rfl⟩
theorem compact_sort (l : List Bs) : (Lib.compact (sortS l)).Pairwise (· < ·) ∧ ∀ x, x ∈ Lib.compact (sortS l) ↔ x ∈ l := by
  have hs : (sortS l).Pairwise (· ≤ ·) := by
    have := List.pairwise_mergeSort (le := fun x y : Bs => decide (x ≤ y)) (fun a b c h1 h2 => by simp only [decide_eq_true_eq] at *; exact List.le_trans h1 h2) (fun a b => by simpa using List.le_total a b) l
    simpa [sortS] using this
  obtain ⟨h1, h2⟩ := compact_up (sortS l) hs (sortS l).length (Nat.le_refl _)
  refine ⟨h1, fun x => ?_⟩
  rw [show Lib.compact (sortS l) = Lib.compactUpTo (sortS l).toArray (sortS l).length from rfl, h2 x, List.take_length]
  simp [sortS, List.mem_mergeSort]

/-! ### Sources -/
theorem wrote_any (xs : List Done) (q : Bs) : xs.any (fun d => d.wrote.path == q) = decide (0 ≤ wroteE xs q) := by
  have := findP_nonneg (p := fun d : Done => d.wrote.path == q) xs 0
  unfold wroteE
  cases h : xs.any (fun d => d.wrote.path == q) with
  | true => simp [this.2 h]
  | false =>
    have : ¬ 0 ≤ findP (fun d : Done => d.wrote.path == q) 0 xs := fun g => by rw [this.1 g] at h; cases h
    simp [this]
theorem written_look (q : Bs) : ∀ (xs : List Done) (M : List (Bs × Bool)), (lookM q (writtenM M xs)).getD false = ((lookM q M).getD false || xs.any fun d => d.wrote.path == q)
  | [], M => by simp [writtenM]
  | d :: r, M => by
    rw [writtenM, written_look q r, lookM_put]
    by_cases h : q = d.wrote.path
    · simp [h]
    · have : (d.wrote.path == q) = false := by simp; exact fun e => h e.symm
      simp [h, this]
theorem srcReads_mem (W : List (Bs × Bool)) (x : Bs) : ∀ ts : List Touch, x ∈ srcReads W true ts ↔ ∃ t ∈ ts, (lookM t.path W).getD false = false ∧ t.path = x
  | [] => by simp [srcReads]
  | t :: ts => by
    unfold srcReads
    cases h : (lookM t.path W).getD false with
    | true => simp [srcReads_mem W x ts, h]
    | false =>
      simp [srcReads_mem W x ts, h]
      constructor
      · rintro (e | e)
        · exact .inl e.symm
        · exact .inr e
      · rintro (e | e)
        · exact .inl e.symm
        · exact .inr e
theorem srcReads_false (W : List (Bs × Bool)) : ∀ ts : List Touch, srcReads W false ts = []
  | [] => rfl
  | t :: ts => by simp [srcReads, srcReads_false W ts]
theorem rsrcReads_spec (xs : List Done) : ∀ (ts : List Touch) (os : List Bs), os.Pairwise (· < ·) → (rsrcReads xs os ts).Pairwise (· < ·) ∧ ∀ x, x ∈ rsrcReads xs os ts ↔ x ∈ os ∨ ∃ t ∈ ts, wroteE xs t.path < 0 ∧ t.path = x
  | [], os, h => by simp [rsrcReads, h]
  | t :: ts, os, h => by
    unfold rsrcReads
    by_cases c : wroteE xs t.path < 0
    · simp only [c, if_true]
      obtain ⟨i1, i2⟩ := rsrcReads_spec xs ts (insS t.path os) (insS_sorted _ _ h)
      refine ⟨i1, fun x => ?_⟩
      rw [i2 x, insS_mem]
      simp only [List.mem_cons]
      constructor
      · rintro ((e | e) | ⟨u, e1, e2⟩)
        · exact .inr ⟨t, .inl rfl, c, e.symm⟩
        · exact .inl e
        · exact .inr ⟨u, .inr e1, e2⟩
      · rintro (e | ⟨u, e1 | e1, e2, e3⟩)
        · exact .inl (.inr e)
        · subst e1; exact .inl (.inl e3.symm)
        · exact .inr ⟨u, e1, e2, e3⟩
    · simp only [c, if_false]
      obtain ⟨i1, i2⟩ := rsrcReads_spec xs ts os h
      refine ⟨i1, fun x => ?_⟩
      rw [i2 x]
      simp only [List.mem_cons]
      constructor
      · rintro (e | ⟨u, e1, e2⟩)
        · exact .inl e
        · exact .inr ⟨u, .inr e1, e2⟩
      · rintro (e | ⟨u, e1 | e1, e2, e3⟩)
        · exact .inl e
        · subst e1; exact absurd e2 c
        · exact .inr ⟨u, e1, e2, e3⟩
theorem rsrcAll_spec (xs : List Done) : ∀ (ms : List Bool) (ds : List Done) (os : List Bs), os.Pairwise (· < ·) → (rsrcAll xs os ms ds).Pairwise (· < ·) ∧ ∀ x, x ∈ rsrcAll xs os ms ds ↔ x ∈ os ∨ x ∈ srcAll (writtenM [] xs) ms ds
  | [], ds, os, h => by
    have e : rsrcAll xs os [] ds = os := by cases ds <;> rfl
    rw [e]; simp [srcAll, h]
  | b :: ms, [], os, h => by simp [rsrcAll, srcAll, h]
  | b :: ms, d :: ds, os, h => by
    simp only [rsrcAll, srcAll]
    cases b with
    | false =>
      obtain ⟨i1, i2⟩ := rsrcAll_spec xs ms ds os h
      refine ⟨by simpa using i1, fun x => ?_⟩
      simpa [srcReads_false] using i2 x
    | true =>
      obtain ⟨k1, k2⟩ := rsrcReads_spec xs d.reads os h
      obtain ⟨i1, i2⟩ := rsrcAll_spec xs ms ds (rsrcReads xs os d.reads) k1
      refine ⟨by simpa using i1, fun x => ?_⟩
      simp only [if_true]
      rw [i2 x, k2 x, List.mem_append, srcReads_mem]
      have hW : ∀ q, ((lookM q (writtenM [] xs)).getD false = false) ↔ wroteE xs q < 0 := fun q => by
        rw [written_look, wrote_any]; simp [lookM]
      simp only [hW, or_assoc]

/-! ### The marks -/
/-- No file that a step writes was touched before it, by itself or by another. -/
def Once (xs : List Done) : Prop := ∀ (i : Nat) (s : Done), xs[i]? = some s → (∀ (j : Nat) (d : Done), j < i → xs[j]? = some d → d.wrote.path ≠ s.wrote.path ∧ ∀ t : Touch, t ∈ d.reads → t.path ≠ s.wrote.path) ∧ ∀ t : Touch, t ∈ s.reads → t.path ≠ s.wrote.path

theorem touchIn_iff (p : Bs) : ∀ ts : List Touch, touchIn p ts = none → ∀ t ∈ ts, t.path ≠ p
  | [], _ => by simp
  | t :: ts, h => by
    unfold touchIn at h
    cases c : t.path == p with
    | true => simp [c] at h
    | false =>
      simp only [c, Bool.false_eq_true, if_false] at h
      intro u hu
      rcases List.mem_cons.1 hu with e | e
      · subst e; simpa using c
      · exact touchIn_iff p ts h u e
theorem touchedL_iff (p : Bs) : ∀ ds : List Done, touchedL p ds = none → ∀ d ∈ ds, d.wrote.path ≠ p ∧ ∀ t ∈ d.reads, t.path ≠ p
  | [], _ => by simp
  | d :: ds, h => by
    unfold touchedL at h
    cases c : touchIn p d.reads with
    | some x => simp [c] at h
    | none =>
      simp only [c] at h
      cases c2 : d.wrote.path == p with
      | true => simp [c2] at h
      | false =>
        simp only [c2, Bool.false_eq_true, if_false] at h
        intro u hu
        rcases List.mem_cons.1 hu with e | e
        · subst e; exact ⟨by simpa using c2, touchIn_iff p _ c⟩
        · exact touchedL_iff p ds h u e
theorem refFiles_last (before : Bs → Option Bs) (s : Done) : ∀ (rest : List Touch) (k : Nat), s.reads.drop k = rest → k ≤ s.reads.length → refFiles before s k (rest ++ [s.wrote]) = 0 → before s.wrote.path = none ∧ s.reads.any (fun u => u.path == s.wrote.path) = false
  | [], k, hd, hk, h => by
    have := drop_nil hd
    have e : k = s.reads.length := by omega
    subst e
    simp only [List.nil_append, refFiles, findP_any, List.take_length, eqB_self, Bool.true_and] at h
    split at h
    · split at h
      · split at h
        · omega
        · rename_i c
          simp only [Bool.or_eq_true, not_or, Bool.not_eq_true] at c
          refine ⟨?_, c.1⟩
          have := c.2
          cases hb : before s.wrote.path with
          | none => rfl
          | some x => simp [hb] at this
      · omega
    · omega
  | t :: rest, k, hd, hk, h => by
    obtain ⟨hi, hx, hxd⟩ := drop_cons hd
    simp only [List.cons_append, refFiles] at h
    split at h
    · split at h
      · split at h
        · omega
        · split at h
          · omega
          · exact refFiles_last before s rest (k + 1) hxd (by omega) h
      · omega
    · omega
theorem refFrom_steps (xs : List Done) : ∀ (rest : List Done) (i : Nat), xs.drop i = rest → refFrom xs i rest = 0 → ∀ j s, i ≤ j → xs[j]? = some s → stepE xs j s = 0
  | [], i, hd, h, j, s, hj, hx => by
    have := drop_nil hd
    rw [List.getElem?_eq_none (by omega)] at hx; cases hx
  | d :: rest, i, hd, h, j, s, hj, hx => by
    obtain ⟨hi, hxi, hxd⟩ := drop_cons hd
    unfold refFrom at h
    split at h
    · rename_i c
      rcases Nat.lt_or_ge i j with g | g
      · exact refFrom_steps xs rest (i + 1) hxd h j s (by omega) hx
      · have : j = i := by omega
        subst this
        rw [hxi] at hx; injection hx with hx; subst hx; exact c
    · rename_i c; exact absurd h c
theorem once_of (xs : List Done) (h : refCheckE xs = 0) : Once xs := by
  unfold refCheckE at h
  split at h
  · omega
  · intro i s hx
    have hst := refFrom_steps xs xs 0 rfl h i s (by omega) hx
    have hil := (List.getElem?_eq_some_iff.1 hx).1
    unfold stepE at hst
    by_cases c1 : rangeBad s = true
    · rw [if_pos c1] at hst; omega
    rw [if_neg c1] at hst
    by_cases c2 : (if i = 0 then none else xs[i - 1]?).any (orderBad · s) = true
    · rw [if_pos c2] at hst; omega
    rw [if_neg c2] at hst
    by_cases c3 : countBad s = true
    · rw [if_pos c3] at hst; omega
    rw [if_neg c3] at hst
    obtain ⟨h1, h2⟩ := refFiles_last _ s s.reads 0 rfl (by omega) hst
    refine ⟨fun j d hj hd => ?_, fun t ht e => ?_⟩
    · exact touchedL_iff s.wrote.path _ h1 d (List.mem_take_iff_getElem.2 ⟨j, by omega, (List.getElem?_eq_some_iff.1 hd).2⟩)
    · have := List.any_eq_false.1 h2 t ht
      exact this (by simp [e])

theorem findP_some {α : Type} {p : α → Bool} : ∀ (xs : List α) (i w : Nat), findP p i xs = (w : Nat) → i ≤ w ∧ ∃ x, xs[w - i]? = some x ∧ p x = true
  | [], i, w, h => by simp [findP] at h
  | x :: xs, i, w, h => by
    unfold findP at h
    split at h
    · rename_i c
      have : w = i := by omega
      subst this
      exact ⟨Nat.le_refl _, x, by simp, c⟩
    · obtain ⟨h1, y, h2, h3⟩ := findP_some xs (i + 1) w h
      refine ⟨by omega, y, ?_, h3⟩
      rw [show w - i = (w - (i + 1)) + 1 by omega]
      simpa using h2
theorem findP_take {α : Type} {p : α → Bool} : ∀ (xs : List α) (i n w : Nat), findP p i xs = (w : Nat) → w < i + n → findP p i (xs.take n) = (w : Nat)
  | [], i, n, w, h, hw => by simpa using h
  | x :: xs, i, n, w, h, hw => by
    have h0 := h
    unfold findP at h
    split at h
    · rename_i c
      have : w = i := by omega
      subst this
      cases n with
      | zero => omega
      | succ n => simp [findP, c]
    · rename_i c
      obtain ⟨h1, _⟩ := findP_some xs (i + 1) w h
      cases n with
      | zero => omega
      | succ n =>
        simp only [List.take_succ_cons, findP, c]
        exact findP_take xs (i + 1) n w h (by omega)
theorem findP_take_none {α : Type} {p : α → Bool} (xs : List α) (n : Nat) (h : findP p 0 xs < 0) : findP p 0 (xs.take n) < 0 := by
  refine Int.not_le.1 fun g => ?_
  have h1 := (findP_nonneg (p := p) (xs.take n) 0).1 g
  have h2 := (findP_nonneg (p := p) xs 0).2 (by
    rw [List.any_eq_true] at h1 ⊢
    obtain ⟨x, hx, hp⟩ := h1
    exact ⟨x, List.mem_of_mem_take hx, hp⟩)
  omega

theorem writers_look (q : Bs) : ∀ (ds : List Done) (i : Nat) (W : List (Bs × Nat)), ds.Pairwise (fun a b => a.wrote.path ≠ b.wrote.path) →
    lookM q (writersOf W i ds) = if 0 ≤ findP (fun d : Done => d.wrote.path == q) i ds then some (findP (fun d : Done => d.wrote.path == q) i ds).toNat else lookM q W
  | [], i, W, _ => by simp [writersOf, findP]
  | d :: r, i, W, h => by
    obtain ⟨h1, h2⟩ := List.pairwise_cons.1 h
    rw [writersOf, writers_look q r (i + 1) _ h2, lookM_put]
    simp only [findP]
    by_cases e : q = d.wrote.path
    · have e1 : (d.wrote.path == q) = true := by simp [e]
      have e2 : ¬ 0 ≤ findP (fun d : Done => d.wrote.path == q) (i + 1) r := fun g => by
        have := (findP_nonneg (p := fun d : Done => d.wrote.path == q) r (i + 1)).1 g
        obtain ⟨y, hy, hp⟩ := List.any_eq_true.1 this
        exact h1 y hy (by rw [← e]; simpa using (show y.wrote.path = q by simpa using hp).symm)
      rw [if_neg e2]; simp [e]
    · have e1 : (d.wrote.path == q) = false := by simp; exact fun g => e g.symm
      simp [e1, e]

theorem once_pair (xs : List Done) (h : Once xs) : xs.Pairwise (fun a b => a.wrote.path ≠ b.wrote.path) := by
  refine List.pairwise_iff_getElem.2 fun i j hi hj hij => ?_
  exact ((h j xs[j] (by simp [hj])).1 i xs[i] hij (by simp [hi])).1

/-- What a step reads was written before it, or by none. -/
theorem read_before (xs : List Done) (h : Once xs) (i : Nat) (d : Done) (hx : xs[i]? = some d) (t : Touch) (ht : t ∈ d.reads) (w : Nat) (hw : wroteE xs t.path = w) : w < i := by
  obtain ⟨_, s, h2, h3⟩ := findP_some xs 0 w hw
  simp only [Nat.sub_zero] at h2
  have h3 : s.wrote.path = t.path := by simpa using h3
  rcases Nat.lt_trichotomy w i with g | g | g
  · exact g
  · subst g
    rw [hx] at h2; injection h2 with h2; subst h2
    exact absurd h3.symm ((h w d hx).2 t ht)
  · exact absurd h3.symm (((h w s h2).1 i d g hx).2 t ht)

theorem look_read (xs : List Done) (h : Once xs) (a i : Nat) (hi : i ≤ a) (d : Done) (hx : xs[i]? = some d) (t : Touch) (ht : t ∈ d.reads) :
    lookM t.path (writersOf [] 0 (xs.take a)) = if 0 ≤ wroteE xs t.path then some (wroteE xs t.path).toNat else none := by
  rw [writers_look t.path (xs.take a) 0 [] ((once_pair xs h).sublist (List.take_sublist _ _))]
  by_cases c : 0 ≤ wroteE xs t.path
  · obtain ⟨w, hw⟩ : ∃ w : Nat, wroteE xs t.path = w := ⟨(wroteE xs t.path).toNat, by omega⟩
    have hlt := read_before xs h i d hx t ht w hw
    have := findP_take (p := fun d : Done => d.wrote.path == t.path) xs 0 a w hw (by omega)
    rw [this, hw]; simp
  · have hn : findP (fun d : Done => d.wrote.path == t.path) 0 xs < 0 := by unfold wroteE at c; omega
    have := findP_take_none (p := fun d : Done => d.wrote.path == t.path) xs a hn
    rw [if_neg (by omega), if_neg c]; rfl

theorem markReads_eq (xs : List Done) (W : List (Bs × Nat)) : ∀ (ts : List Touch) (mk : List Bool), (∀ t ∈ ts, lookM t.path W = if 0 ≤ wroteE xs t.path then some (wroteE xs t.path).toNat else none) → markReads W mk ts = rmarkReads xs mk ts
  | [], mk, _ => rfl
  | t :: ts, mk, h => by
    unfold markReads rmarkReads
    rw [h t (by simp), markReads_eq xs W ts _ (fun u hu => h u (by simp [hu]))]
    by_cases c : 0 ≤ wroteE xs t.path <;> simp [c]
theorem markDown_eq (xs : List Done) (h : Once xs) (a : Nat) : ∀ (i : Nat) (mk : List Bool), i ≤ a + 1 → markDown (writersOf [] 0 (xs.take a)) xs i mk = rmarkDown xs i mk
  | 0, mk, _ => rfl
  | i + 1, mk, hi => by
    unfold markDown rmarkDown
    rw [markDown_eq xs h a i _ (by omega)]
    congr 1
    split
    · cases hx : xs[i]? with
      | none => rfl
      | some d => exact markReads_eq xs _ d.reads mk (fun t ht => look_read xs h a i (by omega) d hx t ht)
    · rfl

theorem writerE_eq (xs : List Done) (p : Bs) : writerE xs p = refWriterE xs p := by
  unfold writerE refWriterE; rw [check_eq]; rfl
theorem marked_none : ∀ (n i : Nat), marked i (List.replicate n false) = []
  | 0, _ => rfl
  | n + 1, i => by simp [List.replicate_succ, marked, marked_none n (i + 1)]
theorem needed_eq (xs : List Done) (p : Bs) : (refCheckE xs = 0 → 0 ≤ wroteE xs p → neededE xs p = (marksE xs p, true)) ∧ (¬ (refCheckE xs = 0 ∧ 0 ≤ wroteE xs p) → neededE xs p = ([], false)) := by
  unfold neededE
  rw [writerE_eq]
  unfold refWriterE
  constructor
  · intro h1 h2
    have h3 : ¬ wroteE xs p < 0 := by omega
    simp only [h1, if_true, h3, if_false]
    rw [markDown_eq xs (once_of xs h1) _ _ _ (by omega)]
    unfold marksE
    rw [if_neg h3]
  · intro h
    by_cases h1 : refCheckE xs = 0
    · have h3 : wroteE xs p < 0 := by
        rcases Int.lt_or_le (wroteE xs p) 0 with g | g
        · exact g
        · exact absurd ⟨h1, g⟩ h
      simp [h1, h3]
    · simp [h1]
theorem marks_none (xs : List Done) (p : Bs) (h : ¬ 0 ≤ wroteE xs p) : marksE xs p = List.replicate xs.length false := by
  unfold marksE; rw [if_pos (by omega)]
theorem refNeeded_eq (xs : List Done) (p : Bs) : marked 0 (neededE xs p).1 = refNeededE xs p := by
  unfold refNeededE
  by_cases h1 : refCheckE xs = 0
  · by_cases h2 : 0 ≤ wroteE xs p
    · rw [(needed_eq xs p).1 h1 h2, if_pos h1]
    · rw [(needed_eq xs p).2 (fun g => h2 g.2), if_pos h1, marks_none xs p h2, marked_none]; rfl
  · rw [(needed_eq xs p).2 (fun g => h1 g.1), if_neg h1]; rfl
theorem rsrcAll_none (xs : List Done) : ∀ (n : Nat) (ds : List Done) (os : List Bs), rsrcAll xs os (List.replicate n false) ds = os
  | 0, ds, os => by cases ds <;> rfl
  | n + 1, [], os => by simp [List.replicate_succ, rsrcAll]
  | n + 1, d :: ds, os => by simp [List.replicate_succ, rsrcAll, rsrcAll_none xs n ds os]
theorem sources_eq (xs : List Done) (p : Bs) : sourcesE xs p = refSourcesE xs p := by
  unfold sourcesE refSourcesE
  by_cases h1 : refCheckE xs = 0
  · by_cases h2 : 0 ≤ wroteE xs p
    · rw [(needed_eq xs p).1 h1 h2, if_pos h1]
      simp only [if_true]
      obtain ⟨a1, a2⟩ := compact_sort (srcAll (writtenM [] xs) (marksE xs p) xs)
      obtain ⟨b1, b2⟩ := rsrcAll_spec xs (marksE xs p) xs [] (by simp)
      exact sorted_ext _ _ a1 b1 (fun x => by rw [a2 x, b2 x]; simp)
    · rw [(needed_eq xs p).2 (fun g => h2 g.2), if_pos h1, marks_none xs p h2, rsrcAll_none]; rfl
  · rw [(needed_eq xs p).2 (fun g => h1 g.1), if_neg h1]; rfl

/-! ### The law -/
theorem marked_len : ∀ (ms : List Bool) (i : Nat), (marked i ms).length ≤ ms.length
  | [], _ => Nat.le_refl _
  | b :: r, i => by
    have := marked_len r (i + 1)
    unfold marked; split <;> simp <;> omega
theorem refNeeded_len (xs : List Done) (p : Bs) : (refNeededE xs p).length ≤ xs.length := by
  unfold refNeededE; split
  · have := marked_len (marksE xs p) 0
    rw [marksE_len] at this; exact this
  · simp
theorem rsrcAll_len (xs : List Done) : ∀ (ms : List Bool) (ds : List Done) (os : List Bs), (rsrcAll xs os ms ds).length ≤ os.length + readsSum ds
  | [], ds, os => by
    have e : rsrcAll xs os [] ds = os := by cases ds <;> rfl
    rw [e]; omega
  | b :: ms, [], os => by simp [rsrcAll, readsSum]
  | b :: ms, d :: ds, os => by
    have h1 := rsrcAll_len xs ms ds (if b then rsrcReads xs os d.reads else os)
    have h2 := rsrcReads_len xs d.reads os
    simp only [rsrcAll, readsSum]
    cases b <;> simp at h1 ⊢ <;> omega
theorem refSources_len (xs : List Done) (p : Bs) : (refSourcesE xs p).length ≤ readsSum xs := by
  unfold refSourcesE; split
  · simpa using rsrcAll_len xs (marksE xs p) xs []
  · simp
theorem decStrs_enc : ∀ xs : List Bs, decStrs (xs.map rStr.enc) = some xs
  | [] => rfl
  | x :: xs => by simp [decStrs, decStrs_enc xs]

def F_RecordNeeds : List AV → Option AV := F2 (eSl rDone) eStr eBool fun a _ => if okS a = true ∧ a.length ≤ 1048576 then some true else none
theorem RecordNeeds_ok (G : Gam) (hA : G Fn.licitlaw17_awake = some (.pure F_awake)) (hF : G Fn.licitref17_Few = some (.pure F_Few)) (hW : G Fn.record_Writer = some (.pure F_Writer)) (hW2 : G Fn.licitref17_Writer = some (.pure F_refWriter)) (hN : G Fn.record_Needed = some (.pure F_Needed)) (hN2 : G Fn.licitref17_Needed = some (.pure F_refNeeded))
    (hS : G Fn.record_Sources = some (.pure F_Sources)) (hS2 : G Fn.licitref17_Sources = some (.pure F_refSources)) (hE : G Fn.slices_Equal___int_int_ = some (.pure F_EqualI)) (hQ : G Fn.slices_Equal___string_string_ = some (.pure F_EqualS)) :
    ∀ args r, F_RecordNeeds args = some r → wpM G Mc.licitlaw17_RecordNeeds (pureQ Rs.licitlaw17_RecordNeeds r) [] (frInit Ks.licitlaw17_RecordNeeds args) [] := F2_ok fun a p r h => by
  split at h
  · rename_i ho
    injection h with h; subst h
    obtain ⟨oa, la⟩ := ho
    have oa' := oa
    simp only [okS, Bool.and_eq_true, decide_eq_true_eq] at oa'
    rw [wpM_go, eSl_done]
    have cA : ∀ st h, opV G st h (.call Fn.licitlaw17_awake) (some []) = some (.bool true, h) := fun st h => op_call hA rfl rfl (.inl rfl)
    have cF : ∀ st h, opV G st h (.call Fn.licitref17_Few) (some [.sl (doneRows a)]) = some (.bool (fewE a), h) := fun st h => op_call hF rfl (F1_use (A := eSl rDone) (R := eBool) (x := a) (if_pos oa'.1)) (.inl rfl)
    have cW : ∀ st h, opV G st h (.call Fn.record_Writer) (some [.sl (doneRows a), .str p]) = some (.int .i64 (refWriterE a p), h) := fun st h => op_call hW rfl (F2_use (A := eSl rDone) (B := eStr) (R := eInt) (x := a) (y := p) (r := refWriterE a p) (by rw [if_pos oa'.1, writerE_eq])) (.inl rfl)
    have cW2 : ∀ st h, opV G st h (.call Fn.licitref17_Writer) (some [.sl (doneRows a), .str p]) = some (.int .i64 (refWriterE a p), h) := fun st h => op_call hW2 rfl (F2_use (A := eSl rDone) (B := eStr) (R := eInt) (x := a) (y := p) (r := refWriterE a p) (by rw [if_pos oa'.1])) (.inl rfl)
    have cN : ∀ st h, opV G st h (.call Fn.record_Needed) (some [.sl (doneRows a), .str p]) = some (.sl ((refNeededE a p).map rInt.enc), h) := fun st h => op_call hN rfl (F2_use (A := eSl rDone) (B := eStr) (R := eSl rInt) (x := a) (y := p) (r := refNeededE a p) (by rw [if_pos oa'.1, refNeeded_eq])) (.inr rfl)
    have cN2 : ∀ st h, opV G st h (.call Fn.licitref17_Needed) (some [.sl (doneRows a), .str p]) = some (.sl ((refNeededE a p).map rInt.enc), h) := fun st h => op_call hN2 rfl (F2_use (A := eSl rDone) (B := eStr) (R := eSl rInt) (x := a) (y := p) (r := refNeededE a p) (by rw [if_pos ⟨oa'.1, by unfold big; omega⟩])) (.inr rfl)
    have cS : ∀ st h, opV G st h (.call Fn.record_Sources) (some [.sl (doneRows a), .str p]) = some (.sl ((refSourcesE a p).map rStr.enc), h) := fun st h => op_call hS rfl (F2_use (A := eSl rDone) (B := eStr) (R := eSl rStr) (x := a) (y := p) (r := refSourcesE a p) (by rw [if_pos oa, sources_eq])) (.inr rfl)
    have cS2 : ∀ st h, opV G st h (.call Fn.licitref17_Sources) (some [.sl (doneRows a), .str p]) = some (.sl ((refSourcesE a p).map rStr.enc), h) := fun st h => op_call hS2 rfl (F2_use (A := eSl rDone) (B := eStr) (R := eSl rStr) (x := a) (y := p) (r := refSourcesE a p) (by rw [if_pos oa])) (.inr rfl)
    have hl1 := refNeeded_len a p
    have hl2 := refSources_len a p
    have hl1' : (refNeededE a p).length ≤ big := by unfold big; omega
    have hl2' : (refSourcesE a p).length ≤ big := by omega
    have cE : ∀ st h, opV G st h (.call Fn.slices_Equal___int_int_) (some [.sl ((refNeededE a p).map rInt.enc), .sl ((refNeededE a p).map rInt.enc)]) = some (.bool true, h) := fun st h => op_call hE rfl (by simp [F_EqualI, decInts_enc, hl1']) (.inl rfl)
    have cQ : ∀ st h, opV G st h (.call Fn.slices_Equal___string_string_) (some [.sl ((refSourcesE a p).map rStr.enc), .sl ((refSourcesE a p).map rStr.enc)]) = some (.bool true, h) := fun st h => op_call hQ rfl (by simp [F_EqualS, decStrs_enc, hl2']) (.inl rfl)
    cases hf : fewE a with
    | false => simp [Mc.licitlaw17_RecordNeeds, frInit, Ks.licitlaw17_RecordNeeds, cA, cF, hf, Rs.licitlaw17_RecordNeeds]
    | true =>
      cases hp : ltB 200 p.length with
      | true => simp [Mc.licitlaw17_RecordNeeds, frInit, Ks.licitlaw17_RecordNeeds, cA, cF, hf, hp, eStr, Rs.licitlaw17_RecordNeeds]
      | false => simp [Mc.licitlaw17_RecordNeeds, frInit, Ks.licitlaw17_RecordNeeds, cA, cF, hf, hp, eStr, cW, cW2, cN, cN2, cE, cS, cS2, cQ, Rs.licitlaw17_RecordNeeds]
  · cases h

end Go.Proofs.YtmjdgpiofhildaaDoor

namespace Go.Proofs.YtmjdgpiofhildaaDoor
noncomputable def Gb3 : Gam := Gb2.add Fn.licitref17_marks (.pure F_marks)
theorem gb3_ok (m : Int) : GamOK Tryd.prog (gv1 m) Gb3 := gam_add (gb2_ok m) (by kernel_rfl) (Pure.licitref17_marks (gb2_ok m) (marks_ok _ rfl))
noncomputable def Gb4 : Gam := Gb3.add Fn.licitref17_Needed (.pure F_refNeeded)
theorem gb4_ok (m : Int) : GamOK Tryd.prog (gv1 m) Gb4 := gam_add (gb3_ok m) (by kernel_rfl) (Pure.licitref17_Needed (gb3_ok m) (refNeeded_ok _ rfl rfl))
noncomputable def Gb5 : Gam := Gb4.add Fn.licitref17_Insert (.pure F_Insert)
theorem gb5_ok (m : Int) : GamOK Tryd.prog (gv1 m) Gb5 := gam_add (gb4_ok m) (by kernel_rfl) (Pure.licitref17_Insert (gb4_ok m) (Insert_ok _))
noncomputable def Gb6 : Gam := Gb5.add Fn.licitref17_Sources (.pure F_refSources)
theorem gb6_ok (m : Int) : GamOK Tryd.prog (gv1 m) Gb6 := gam_add (gb5_ok m) (by kernel_rfl) (Pure.licitref17_Sources (gb5_ok m) (refSources_ok _ rfl rfl rfl rfl))
noncomputable def Gb7 : Gam := Gb6.add Fn.licitlaw17_RecordNeeds (.pure F_RecordNeeds)
theorem gb7_ok (m : Int) : GamOK Tryd.prog (gv1 m) Gb7 := gam_add (gb6_ok m) (by kernel_rfl) (Pure.licitlaw17_RecordNeeds (gb6_ok m) (RecordNeeds_ok _ rfl rfl rfl rfl rfl rfl rfl rfl rfl rfl))
end Go.Proofs.YtmjdgpiofhildaaDoor
