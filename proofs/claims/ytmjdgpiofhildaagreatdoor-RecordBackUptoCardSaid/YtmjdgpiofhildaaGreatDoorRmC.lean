/- The faults of a step: record.touched, record.files. record.Check. record.Writer, needed, Needed. -/
import Derived.Test.YtmjdgpiofhildaaGreatDoorRmA
import Derived.Test.YtmjdgpiofhildaaGreatDoorRmB
namespace Go.Proofs.YtmjdgpiofhildaaGreatDoor
open Go.RowKit Go.IntWalk

def touchedE (t : Touch) : Int := if pathOK t.path then (if t.dig.length = 32 then 0 else 17) else 2
def F_touched : List AV → Option AV := F1 (eAgg rTouch) eInt fun t => if okT t then some (touchedE t) else none
theorem touched_ok (G : Gam) (hG : G Fn.tree_Path = some (.pure F_Path)) : ∀ args r, F_touched args = some r → wpM G Mc.record_touched (pureQ Rs.record_touched r) [] (frInit Ks.record_touched args) [] := F1_ok fun t r h => by
  split at h
  · rename_i ho
    injection h with h; subst h
    rw [wpM_go, eAgg_touch]
    have hc : ∀ st h, opV G st h (.call Fn.tree_Path) (some [.str t.path]) = some (.int .i64 (if pathOK t.path then 0 else 2), h) := fun st h => op_call hG rfl (F1_use (A := eStr) (R := eInt) (x := t.path) (if_pos (by simpa [okT] using ho))) (.inl rfl)
    cases c1 : pathOK t.path with
    | false =>
      have e : eqB 2 0 = false := rfl
      simp [Mc.record_touched, frInit, Ks.record_touched, Touch.row, cut, hc, c1, e, touchedE, Rs.record_touched, eInt]
    | true =>
      by_cases c2 : t.dig.length = 32
      · have e : eqB (t.dig.length : Int) 32 = true := eqB_iff.2 (by omega)
        simp [Mc.record_touched, frInit, Ks.record_touched, Touch.row, cut, hc, c1, e, c2, touchedE, Rs.record_touched, eInt]
      · have e : eqB (t.dig.length : Int) 32 = false := eqB_not.2 (by omega)
        simp [Mc.record_touched, frInit, Ks.record_touched, Touch.row, cut, hc, c1, e, c2, touchedE, Rs.record_touched, eInt]
  · cases h

/-- The first fault of what is read; what has been read. -/
def readsE (m : List (Bs × Bs)) : List (Bs × Bool) → List Touch → Int × List (Bs × Bool)
  | own, [] => (0, own)
  | own, t :: ts =>
    if touchedE t = 0 then
      (if (lookM t.path own).getD false then (6, own)
       else if (lookM t.path m).any (fun d => d != t.dig) then (9, own)
       else readsE m (putM t.path true own) ts)
    else (touchedE t, own)
def filesE (m : List (Bs × Bs)) (s : Done) : Int :=
  if (readsE m [] s.reads).1 = 0 then
    (if touchedE s.wrote = 0 then
      (if (lookM s.wrote.path m).isSome || (lookM s.wrote.path (readsE m [] s.reads).2).getD false then 6 else 0)
     else touchedE s.wrote)
  else (readsE m [] s.reads).1

theorem touchedE_ok (G : Gam) (hG : G Fn.record_touched = some (.pure F_touched)) {t : Touch} (ho : okT t = true) (st : Bool) (h : Heap) : opV G st h (.call Fn.record_touched) (some [.agg [.str t.path, .str t.dig]]) = some (.int .i64 (touchedE t), h) :=
  op_call hG rfl (F1_use (A := eAgg rTouch) (R := eInt) (x := t) (if_pos ho)) (.inl rfl)

theorem op_st_ptr {G : Gam} {s : Bool} {h : Heap} {n l off : Nat} {v : AV} {vs : List AV} (hl : h[l]? = some (.cells vs)) (h1 : v.cells.length = n) (h2 : 0 < n) (h3 : v.cells.all oneC = true) (h4 : off + n ≤ vs.length) : opV G s h (.st n) (some [.ptr l off, v]) = some (.junk, h.set l (.cells (setAt vs off v.cells))) := by
  rw [op_st]; simp [h1, h2, h3, hl, h4]

theorem files_loop (G : Gam) (hG : G Fn.record_touched = some (.pure F_touched)) (m : List (Bs × Bs)) (c : List AV) (s : Done) (hb : s.reads.length ≤ big) (ho : s.reads.all okT = true) {ks : List MK} (r : Int) (own0 : List (Bs × Bool)) (hlow : lowL 4 c = true)
    (hr : (readsE m [] s.reads).1 ≠ 0 → r = (readsE m [] s.reads).1)
    (hk : (readsE m [] s.reads).1 = 0 → exM G .normal ks (lookQ Rs.record_files (.int .i64 r) [.map (encM eStr m), .cells c]) [(19, .bool false)]
      [(0, .agg s.row), (1, .map 0), (2, .ptr 2 0), (4, .int .i64 0), (5, .map 3), (7, .junk), (8, .junk), (9, .junk), (10, .junk), (11, .junk), (13, .junk), (16, .sl (touchRows s.reads)), (17, .int .i64 s.reads.length), (18, .int .i64 s.reads.length)] [.map (encM eStr m), .cells c, .cells s.row, .map (encM eBool (readsE m [] s.reads).2)]) :
    ∀ (rest : List Touch) (i : Nat) (own : List (Bs × Bool)), s.reads.drop i = rest → readsE m own rest = readsE m [] s.reads → i ≤ s.reads.length →
    headM G [7, 8, 9, 10] Mc.record_files_L0 4 (.blk 0 :: ks) (lookQ Rs.record_files (.int .i64 r) [.map (encM eStr m), .cells c])
    [(0, .agg s.row), (1, .map 0), (2, .ptr 2 0), (4, .int .i64 0), (5, .map 3), (7, .junk), (8, .junk), (9, .junk), (10, .junk), (11, .junk), (13, .junk), (16, .sl (touchRows s.reads)), (17, .int .i64 s.reads.length), (18, .int .i64 i)] [.map (encM eStr m), .cells c, .cells s.row, .map (encM eBool own)]
  | [], i, own, hd, he, hi => by
    have hi2 := drop_nil hd
    have e : i = s.reads.length := by omega
    simp only [readsE] at he
    have hk' := hk (by rw [← he])
    rw [← he] at hk'
    refine head_go (Mc.record_files_L0.eq_1) ?_
    simpa [trunc, hlow, Done.row, e] using hk'
  | t :: rest, i, own, hd, he, hi => by
    obtain ⟨hi2, hx, hxd⟩ := drop_cons hd
    have hi' : ltB i s.reads.length = true := ltB_iff.2 (by omega)
    have hw := wrap1 (i := i) (by omega)
    have hot : okT t = true := List.all_eq_true.1 ho t (List.mem_of_getElem? hx)
    have hc := touchedE_ok G hG hot
    have ih := fun own h => files_loop G hG m c s hb ho r own0 hlow hr hk rest (i + 1) own hxd h (by omega)
    simp only [readsE] at he
    refine head_go (Mc.record_files_L0.eq_1) ?_
    have hl1 : ∀ st x, opV G st [.map (encM eStr m), .cells c, .cells s.row, .map (encM eBool own), x] (.look .s false (.bool false)) (some [.map 3, .str t.path]) = some (.bool ((lookM t.path own).getD false), [.map (encM eStr m), .cells c, .cells s.row, .map (encM eBool own), x]) := fun st x => by
      rw [op_look (V := eBool) (m := own) rfl]; cases lookM t.path own <;> rfl
    have hl2 : ∀ st x, opV G st [.map (encM eStr m), .cells c, .cells s.row, .map (encM eBool own), x] (.look .s true (.str [])) (some [.map 0, .str t.path]) = some (.tup [.str ((lookM t.path m).getD []), .bool (lookM t.path m).isSome], [.map (encM eStr m), .cells c, .cells s.row, .map (encM eBool own), x]) := fun st x => by
      rw [op_look2 (V := eStr) (m := m) rfl]; cases lookM t.path m <;> rfl
    have hmu : ∀ st x, opV G st [.map (encM eStr m), .cells c, .cells s.row, .map (encM eBool own), x] (.mapup .s) (some [.map 3, .str t.path, .bool true]) = some (.junk, [.map (encM eStr m), .cells c, .cells s.row, .map (encM eBool (putM t.path true own)), x]) := fun st x => by
      exact op_mapup (V := eBool) (m := own) (v := true) (h := [.map (encM eStr m), .cells c, .cells s.row, .map (encM eBool own), x]) rfl rfl rfl rfl
    simp only [Done.row] at hl1 hl2 hmu
    by_cases c1 : touchedE t = 0
    · have e1 : eqB (touchedE t) 0 = true := eqB_iff.2 c1
      simp only [c1, if_true] at he
      cases c2 : (lookM t.path own).getD false with
      | true =>
        simp only [c2, if_true] at he
        have hr' := hr (by rw [← he]; simp)
        rw [← he] at hr'; subst hr'
        simp [trunc, hlow, Done.row, hi', iadr_sl (touchRows_get hx), cut, mkVal, hc, e1, lookQ, Rs.record_files, hl1, c2]
      | false =>
        simp only [c2, Bool.false_eq_true, if_false] at he
        cases c3 : lookM t.path m with
        | none =>
          simp only [c3, Option.any_none, Bool.false_eq_true, if_false] at he
          simp [trunc, hlow, Done.row, hi', iadr_sl (touchRows_get hx), cut, mkVal, hc, e1, hl1, hl2, c2, c3, hmu, hw]
          refine head_of ?_
          simpa [trunc, hlow, Done.row] using ih _ he
        | some d =>
          by_cases c4 : d = t.dig
          · simp [c3, c4] at he
            simp [trunc, hlow, Done.row, hi', iadr_sl (touchRows_get hx), cut, mkVal, hc, e1, hl1, hl2, c2, c3, c4, hmu, hw]
            refine head_of ?_
            simpa [trunc, hlow, Done.row] using ih _ he
          · simp [c3, c4] at he
            have hr' := hr (by rw [← he]; simp)
            rw [← he] at hr'; subst hr'
            have c4' : (d == t.dig) = false := by simp [c4]
            simp [trunc, hlow, Done.row, hi', iadr_sl (touchRows_get hx), cut, mkVal, hc, e1, hl1, hl2, c2, c3, c4', lookQ, Rs.record_files]
    · have e1 : eqB (touchedE t) 0 = false := eqB_not.2 c1
      simp only [c1, if_false] at he
      have hr' := hr (by rw [← he]; exact c1)
      rw [← he] at hr'; subst hr'
      simp [trunc, hlow, Done.row, hi', iadr_sl (touchRows_get hx), cut, mkVal, hc, e1, lookQ, Rs.record_files]

/-- A call of record.files, where the map is the first block, and the step the second. -/
noncomputable def F_files : List AV → Heap → Option AV
  | [.agg a, .map 0], [.map es, .cells c] => match decDone a, decM eStr es with
    | some s, some m => if okD s = true ∧ lowL 4 c = true then some (.int .i64 (filesE m s)) else none
    | _, _ => none
  | _, _ => none

theorem files_ok (G : Gam) (hG : G Fn.record_touched = some (.pure F_touched)) : ∀ args h r, F_files args h = some r → wpM G Mc.record_files (lookQ Rs.record_files r h) [] (frInit Ks.record_files args) h := by
  intro args h r hF
  unfold F_files at hF
  split at hF
  · rename_i a es c
    split at hF
    · rename_i s m h1 h2
      have := decDone_of h1; subst this
      have := decM_ed eStr h2; subst this
      split at hF
      · rename_i hok
        obtain ⟨hd, hlow⟩ := hok
        injection hF with hF; subst hF
        simp only [okD, Bool.and_eq_true, decide_eq_true_eq] at hd
        rw [wpM_go]
        have loop := fun ks hk => files_loop G hG m c s hd.1.1 hd.1.2 (ks := ks) (filesE m s) [] hlow (fun he => by simp [filesE, he]) hk s.reads 0 [] rfl rfl (by omega)
        simp only [Mc.record_files, frInit, Ks.record_files]
        simp [Done.row, cut]
        refine loop _ (fun he => ?_)
        have hc := touchedE_ok G hG hd.2
        have hl1 : ∀ st, opV G st [.map (encM eStr m), .cells c, .cells s.row, .map (encM eBool (readsE m [] s.reads).2)] (.look .s false (.bool false)) (some [.map 3, .str s.wrote.path]) = some (.bool ((lookM s.wrote.path (readsE m [] s.reads).2).getD false), [.map (encM eStr m), .cells c, .cells s.row, .map (encM eBool (readsE m [] s.reads).2)]) := fun st => by
          rw [op_look (V := eBool) (m := (readsE m [] s.reads).2) rfl]; cases lookM s.wrote.path (readsE m [] s.reads).2 <;> rfl
        have hl2 : ∀ st, opV G st [.map (encM eStr m), .cells c, .cells s.row, .map (encM eBool (readsE m [] s.reads).2)] (.look .s true (.str [])) (some [.map 0, .str s.wrote.path]) = some (.tup [.str ((lookM s.wrote.path m).getD []), .bool (lookM s.wrote.path m).isSome], [.map (encM eStr m), .cells c, .cells s.row, .map (encM eBool (readsE m [] s.reads).2)]) := fun st => by
          rw [op_look2 (V := eStr) (m := m) rfl]; cases lookM s.wrote.path m <;> rfl
        simp only [Done.row] at hl1 hl2
        by_cases c1 : touchedE s.wrote = 0
        · have e1 : eqB (touchedE s.wrote) 0 = true := eqB_iff.2 c1
          cases c2 : (lookM s.wrote.path m).isSome with
          | true => simp [Done.row, cut, mkVal, hc, e1, c1, hl2, c2, filesE, he, lookQ, Rs.record_files]
          | false =>
            cases c3 : (lookM s.wrote.path (readsE m [] s.reads).2).getD false with
            | true => simp [Done.row, cut, mkVal, hc, e1, c1, hl1, hl2, c2, c3, filesE, he, lookQ, Rs.record_files]
            | false => simp [Done.row, cut, mkVal, hc, e1, c1, hl1, hl2, c2, c3, filesE, he, lookQ, Rs.record_files]
        · have e1 : eqB (touchedE s.wrote) 0 = false := eqB_not.2 c1
          simp [Done.row, cut, mkVal, hc, e1, c1, filesE, he, lookQ, Rs.record_files]
      · cases hF
    · cases hF
  · cases hF

end Go.Proofs.YtmjdgpiofhildaaGreatDoor

namespace Go.Proofs.YtmjdgpiofhildaaGreatDoor
open Go.RowKit Go.IntWalk

def rangeBad (s : Done) : Bool := ltB s.pkg 0 || !ltB s.pkg 16 || ltB s.line 0 || !ltB s.line 1024 || ltB s.kind 1 || ltB 8 s.kind
def orderBad (p s : Done) : Bool := ltB s.pkg p.pkg || eqB s.pkg p.pkg && !ltB p.line s.line
def countBad (s : Done) : Bool := eqB s.reads.length 0 || ltB 1024 s.reads.length
def putReads (m : List (Bs × Bs)) : List Touch → List (Bs × Bs)
  | [] => m
  | t :: ts => putReads (putM t.path t.dig m) ts
def checkFrom (m : List (Bs × Bs)) (prev : Option Done) : List Done → Int
  | [] => 0
  | s :: rest => if rangeBad s then 3 else if prev.any (orderBad · s) then 5 else if countBad s then 1
    else if filesE m s = 0 then checkFrom (putM s.wrote.path s.wrote.dig (putReads m s.reads)) (some s) rest else filesE m s
def checkE (r : List Done) : Int := if 1024 < r.length then 10 else checkFrom [] none r

theorem chk_reads (G : Gam) (rows : List (List AV)) (i n : Int) (s : Done) (hb : s.reads.length ≤ big) {ks : List MK} {Q : MPost} : ∀ (rest : List Touch) (j : Nat) (m : List (Bs × Bs)), s.reads.drop j = rest → j ≤ s.reads.length →
    exM G .normal ks Q [(106, .bool false)] [(0, .sl rows), (2, .int .i64 0), (3, .map 0), (4, .int .i64 i), (5, .ptr 1 0), (6, .int .i64 0), (8, .junk), (13, .sl rows), (14, .int .i64 n), (15, .int .i64 i), (103, .sl (touchRows s.reads)), (104, .int .i64 s.reads.length), (105, .int .i64 s.reads.length)] [.map (encM eStr (putReads m rest)), .cells s.row] →
    headM G [8] Mc.record_Check_L1 2 (.blk 3 :: ks) Q [(0, .sl rows), (2, .int .i64 0), (3, .map 0), (4, .int .i64 i), (5, .ptr 1 0), (6, .int .i64 0), (8, .junk), (13, .sl rows), (14, .int .i64 n), (15, .int .i64 i), (103, .sl (touchRows s.reads)), (104, .int .i64 s.reads.length), (105, .int .i64 j)] [.map (encM eStr m), .cells s.row]
  | [], j, m, hd, hj, hk => by
    have hi2 := drop_nil hd
    have e : j = s.reads.length := by omega
    refine head_go (Mc.record_Check_L1.eq_1) ?_
    simp only [putReads] at hk
    simpa [trunc, Done.row, e] using hk
  | t :: rest, j, m, hd, hj, hk => by
    obtain ⟨hi2, hx, hxd⟩ := drop_cons hd
    have hi' : ltB j s.reads.length = true := ltB_iff.2 (by omega)
    have hw := wrap1 (i := j) (by omega)
    have ih := chk_reads G rows i n s hb rest (j + 1) (putM t.path t.dig m) hxd (by omega) hk
    have hmu : ∀ st x, opV G st [.map (encM eStr m), .cells s.row, x] (.mapup .s) (some [.map 0, .str t.path, .str t.dig]) = some (.junk, [.map (encM eStr (putM t.path t.dig m)), .cells s.row, x]) := fun st x => by
      exact op_mapup (V := eStr) (m := m) (v := t.dig) (h := [.map (encM eStr m), .cells s.row, x]) rfl rfl rfl rfl
    simp only [Done.row] at hmu
    refine head_go (Mc.record_Check_L1.eq_1) ?_
    simp [trunc, Done.row, hi', iadr_sl (touchRows_get hx), cut, mkVal, hmu, hw]
    refine head_of ?_
    simpa [trunc, Done.row] using ih

attribute [local congr] ite_congr in
set_option maxHeartbeats 800000 in
theorem chk_loop (G : Gam) (hG : G Fn.record_files = some (.gen (lookF F_files))) (xs : List Done) (hok : okR xs = true) {ks : List MK} (r : Int) :
    ∀ (rest : List Done) (i : Nat) (m : List (Bs × Bs)) (prev : Option Done), xs.drop i = rest → i ≤ xs.length → (match prev with | none => i = 0 | some p => ∃ j, i = j + 1 ∧ xs[j]? = some p) → r = checkFrom m prev rest →
    (∀ m', r = 0 → exM G .normal ks (pureQ Rs.record_Check (.int .i64 r)) [(16, .bool false)] [(0, .sl (doneRows xs)), (2, .int .i64 0), (3, .map 0), (4, .junk), (5, .junk), (6, .junk), (8, .junk), (13, .sl (doneRows xs)), (14, .int .i64 xs.length), (15, .int .i64 xs.length), (103, .junk), (104, .junk), (105, .junk)] [.map (encM eStr m')]) →
    headM G [4, 5, 6, 8, 103, 104, 105] Mc.record_Check_L0 1 (.blk 0 :: ks) (pureQ Rs.record_Check (.int .i64 r)) [(0, .sl (doneRows xs)), (2, .int .i64 0), (3, .map 0), (4, .junk), (5, .junk), (6, .junk), (8, .junk), (13, .sl (doneRows xs)), (14, .int .i64 xs.length), (15, .int .i64 i), (103, .junk), (104, .junk), (105, .junk)] [.map (encM eStr m)]
  | [], i, m, prev, hd, hi, hp, hr, hk => by
    have hi2 := drop_nil hd
    have e : i = xs.length := by omega
    simp only [checkFrom] at hr
    have hk' := hk m hr
    refine head_go (Mc.record_Check_L0.eq_1) ?_
    simpa [trunc, e] using hk'
  | s :: rest, i, m, prev, hd, hi, hp, hr, hk => by
    simp only [okR, Bool.and_eq_true, decide_eq_true_eq] at hok
    obtain ⟨hi2, hx, hxd⟩ := drop_cons hd
    have hds : okD s = true := List.all_eq_true.1 hok.2 s (List.mem_of_getElem? hx)
    have hds' := hds
    simp only [okD, Bool.and_eq_true, decide_eq_true_eq] at hds'
    have hi' : ltB i xs.length = true := ltB_iff.2 (by omega)
    have hw := wrap1 (i := i) (by omega)
    have hia := iadr_sl (h := [Blk.map (encM eStr m)]) (k := .i64) (doneRows_get hx) s.row_len
    have hcut : mkVal true 6 (cut s.row 0 6) = some (.agg s.row) := rfl
    simp only [Done.row] at hia hcut
    refine head_go (Mc.record_Check_L0.eq_1) ?_
    cases c1 : rangeBad s with
    | true =>
      simp only [checkFrom, c1, if_true] at hr
      subst hr
      unfold rangeBad at c1
      simp +contextual [trunc, hi', hia, hcut, mkVal, cut]
      rw [c1]
      simp [Rs.record_Check]
    | false =>
      simp only [checkFrom, c1, Bool.false_eq_true, if_false] at hr
      unfold rangeBad at c1
      have hc : opV G false [.map (encM eStr m), .cells s.row] (.call Fn.record_files) (some [.agg s.row, .map 0]) = some (.int .i64 (filesE m s), [.map (encM eStr m), .cells s.row]) := by
        rw [op_call_gen hG]
        have hlow : lowL 4 s.row = true := rfl
        simp [lookF, F_files, decM_de, hds, hlow]
      have hmu : ∀ st m, opV G st [.map (encM eStr m), .cells s.row] (.mapup .s) (some [.map 0, .str s.wrote.path, .str s.wrote.dig]) = some (.junk, [.map (encM eStr (putM s.wrote.path s.wrote.dig m)), .cells s.row]) := fun st m => by
        exact op_mapup (V := eStr) (m := m) (v := s.wrote.dig) (h := [.map (encM eStr m), .cells s.row]) rfl rfl rfl rfl
      have rd := fun ks Q hk => chk_reads G (doneRows xs) i xs.length s hds'.1.1 (ks := ks) (Q := Q) s.reads 0 m rfl (by omega) hk
      simp only [Done.row] at hc hmu
      simp [Done.row] at rd
      have fin : countBad s = false → checkFrom m prev (s :: rest) = (if filesE m s = 0 then checkFrom (putM s.wrote.path s.wrote.dig (putReads m s.reads)) (some s) rest else filesE m s) → prev.any (orderBad · s) = false → r = (if filesE m s = 0 then checkFrom (putM s.wrote.path s.wrote.dig (putReads m s.reads)) (some s) rest else filesE m s) := fun h1 h2 h3 => by
        simp only [h3, Bool.false_eq_true, if_false, h1] at hr; exact hr
      have next := fun hr' => chk_loop G hG xs (by simp only [okR, Bool.and_eq_true, decide_eq_true_eq]; exact hok) r rest (i + 1) (putM s.wrote.path s.wrote.dig (putReads m s.reads)) (some s) hxd (by omega) ⟨i, rfl, hx⟩ hr' hk
      match prev, hp with
      | none, hp =>
        have hi0 : ltB 0 i = false := ltB_not.2 (by omega)
        simp only [Option.any_none, Bool.false_eq_true, if_false] at hr
        cases c2 : countBad s with
        | true =>
          simp only [c2, if_true] at hr
          subst hr
          unfold countBad at c2
          simp +contextual [trunc, hi', hia, hcut, mkVal, cut]
          rw [c1]
          simp +contextual [hi0, cut, mkVal]
          rw [c2]
          simp [Rs.record_Check]
        | false =>
          simp only [c2, Bool.false_eq_true, if_false] at hr
          unfold countBad at c2
          simp +contextual [trunc, hi', hia, hcut, mkVal, cut]
          rw [c1]
          simp +contextual [hi0, cut, mkVal]
          rw [c2]
          by_cases c3 : filesE m s = 0
          · simp only [c3, if_true] at hr
            simp [hc, c3, mkVal, cut]
            refine rd _ _ ?_
            simp [cut, mkVal, hmu, hw]
            refine head_of ?_
            simpa [trunc] using next hr
          · have e3 : eqB (filesE m s) 0 = false := eqB_not.2 c3
            simp only [c3, if_false] at hr
            subst hr
            simp [hc, e3, mkVal, cut, Rs.record_Check]
      | some p, ⟨j, hj, hpj⟩ =>
        have hi0 : ltB 0 i = true := ltB_iff.2 (by omega)
        have hws : IntKind.i64.wrap ((i : Int) - 1) = (j : Nat) := by unfold big at hok; rw [i64_in _ (by omega)]; omega
        have hip := fun h => iadr_sl (h := h) (k := .i64) (doneRows_get hpj) p.row_len
        simp only [Done.row] at hip
        simp only [Option.any_some] at hr
        cases c0 : orderBad p s with
        | true =>
          simp only [c0, if_true] at hr
          subst hr
          unfold orderBad at c0
          simp +contextual [trunc, hi', hia, hcut, mkVal, cut]
          rw [c1]
          simp +contextual [hi0, hws, hip, cut]
          rw [c0]
          simp [Rs.record_Check]
        | false =>
          simp only [c0, Bool.false_eq_true, if_false] at hr
          unfold orderBad at c0
          cases c2 : countBad s with
          | true =>
            simp only [c2, if_true] at hr
            subst hr
            unfold countBad at c2
            simp +contextual [trunc, hi', hia, hcut, mkVal, cut]
            rw [c1]
            simp +contextual [hi0, hws, hip, cut]
            rw [c0]
            simp +contextual [cut, mkVal]
            rw [c2]
            simp [Rs.record_Check]
          | false =>
            simp only [c2, Bool.false_eq_true, if_false] at hr
            unfold countBad at c2
            simp +contextual [trunc, hi', hia, hcut, mkVal, cut]
            rw [c1]
            simp +contextual [hi0, hws, hip, cut]
            rw [c0]
            simp +contextual [cut, mkVal]
            rw [c2]
            by_cases c3 : filesE m s = 0
            · simp only [c3, if_true] at hr
              simp [hc, c3, mkVal, cut]
              refine rd _ _ ?_
              simp [cut, mkVal, hmu, hw]
              refine head_of ?_
              simpa [trunc] using next hr
            · have e3 : eqB (filesE m s) 0 = false := eqB_not.2 c3
              simp only [c3, if_false] at hr
              subst hr
              simp [hc, e3, mkVal, cut, Rs.record_Check]

def F_Check : List AV → Option AV := F1 (eSl rDone) eInt fun r => if okR r then some (checkE r) else none
theorem Check_ok (G : Gam) (hG : G Fn.record_files = some (.gen (lookF F_files))) : ∀ args r, F_Check args = some r → wpM G Mc.record_Check (pureQ Rs.record_Check r) [] (frInit Ks.record_Check args) [] := F1_ok fun xs r h => by
  split at h
  · rename_i ho
    injection h with h; subst h
    rw [wpM_go, eSl_done]
    have lp := fun ks hk => chk_loop G hG xs ho (ks := ks) (checkFrom [] none xs) xs 0 [] none rfl (by omega) rfl rfl hk
    cases c1 : ltB 1024 xs.length with
    | true =>
      have := ltB_iff.1 c1
      have e : 1024 < xs.length := by omega
      simp [Mc.record_Check, frInit, Ks.record_Check, Rs.record_Check, c1, checkE, e, eInt]
    | false =>
      have := ltB_not.1 c1
      have e : ¬ 1024 < xs.length := by omega
      simp [Mc.record_Check, frInit, Ks.record_Check, c1, checkE, e, eInt]
      refine lp _ (fun m' h0 => ?_)
      simp [Rs.record_Check, h0]
  · cases h
end Go.Proofs.YtmjdgpiofhildaaGreatDoor

namespace Go.Proofs.YtmjdgpiofhildaaGreatDoor
open Go.RowKit Go.IntWalk

/-! ### record.Writer -/
def F_Writer1 : List AV → Heap → Option AV
  | [.agg a, .ptr l 0], h => match decDone a, h[l]? with
    | some d, some (.cells [.str p]) => some (.bool (d.wrote.path == p))
    | _, _ => none
  | _, _ => none
theorem Writer1_ok (G : Gam) : ∀ args h r, F_Writer1 args h = some r → wpM G Mc.record_Writer_1 (lookQ Rs.record_Writer_1 r h) [] (frInit Ks.record_Writer_1 args) h := by
  intro args h r hF
  match args, hF with
  | [.agg a, .ptr l 0], hF =>
    simp only [F_Writer1] at hF
    split at hF
    · rename_i d p h1 h2
      have := decDone_of h1; subst this
      injection hF with hF; subst hF
      have hlt : l < h.length := (List.getElem?_eq_some_iff.1 h2).1
      have hl : ∀ x, (h ++ [x])[l]? = some (.cells [.str p]) := fun x => by rw [List.getElem?_append_left hlt]; exact h2
      rw [wpM_go]
      simp [Mc.record_Writer_1, frInit, Ks.record_Writer_1, Done.row, hl, lookQ, Rs.record_Writer_1]
    · cases hF

def writerE (xs : List Done) (path : Bs) : Int := if checkE xs = 0 then findP (fun d => d.wrote.path == path) 0 xs else -1
def F_Writer : List AV → Option AV := F2 (eSl rDone) eStr eInt fun xs p => if okR xs then some (writerE xs p) else none
theorem Writer_ok (G G0 : Gam) (hC : G Fn.record_Check = some (.pure F_Check)) (hI : G Fn.slices_IndexFunc_api_Record_api_Done_ = some (.gen (lookF (F_IndexFunc true 6 G0)))) (h0 : G0 Fn.record_Writer_1 = some (.gen (lookF F_Writer1))) : ∀ args r, F_Writer args = some r → wpM G Mc.record_Writer (pureQ Rs.record_Writer r) [] (frInit Ks.record_Writer args) [] := F2_ok fun xs p r h => by
  split at h
  · rename_i ho
    injection h with h; subst h
    rw [wpM_go, eSl_done]
    have hb : xs.length ≤ big := by simp only [okR, Bool.and_eq_true, decide_eq_true_eq] at ho; exact ho.1
    have hc : ∀ st h, opV G st h (.call Fn.record_Check) (some [.sl (doneRows xs)]) = some (.int .i64 (checkE xs), h) := fun st h => op_call hC rfl (F1_use (A := eSl rDone) (R := eInt) (x := xs) (if_pos ho)) (.inl rfl)
    have hi := index_use (h := [.cells [.str p]]) (f := Fn.record_Writer_1) (caps := [.ptr 0 0]) (xs := xs) (e := Done.row) (val := fun d => .agg d.row) (p := fun d => d.wrote.path == p) hI hb (fun d => ⟨rfl, rfl⟩) (fun d _ => ask_of (by rw [call_gen h0]; simp [lookF, F_Writer1]))
    by_cases c1 : checkE xs = 0
    · have e : eqB (checkE xs) 0 = true := eqB_iff.2 c1
      have hd : xs.map Done.row = doneRows xs := rfl
      rw [hd] at hi
      simp [Mc.record_Writer, frInit, Ks.record_Writer, Rs.record_Writer, eStr, eInt, hc, e, hi, writerE, c1]
    · have e : eqB (checkE xs) 0 = false := eqB_not.2 c1
      simp [Mc.record_Writer, frInit, Ks.record_Writer, Rs.record_Writer, eStr, eInt, hc, e, writerE, c1]
  · cases h

/-! ### record.needed -/
def writersOf (W : List (Bs × Nat)) (i : Nat) : List Done → List (Bs × Nat)
  | [] => W
  | d :: r => writersOf (putM d.wrote.path i W) (i + 1) r
def markReads (W : List (Bs × Nat)) (mk : List Bool) : List Touch → List Bool
  | [] => mk
  | t :: ts => markReads W (match lookM t.path W with | some w => mk.set w true | none => mk) ts
def markDown (W : List (Bs × Nat)) (xs : List Done) : Nat → List Bool → List Bool
  | 0, mk => mk
  | i + 1, mk => markDown W xs i (if mk[i]? = some true then (match xs[i]? with | some d => markReads W mk d.reads | none => mk) else mk)
theorem markReads_len (W : List (Bs × Nat)) : ∀ (ts : List Touch) (mk : List Bool), (markReads W mk ts).length = mk.length
  | [], mk => rfl
  | t :: ts, mk => by
    rw [markReads, markReads_len W ts]
    cases lookM t.path W <;> simp
theorem writers_lt : ∀ (xs : List Done) (i : Nat) (W : List (Bs × Nat)), (∀ k w, lookM k W = some w → w < i) → ∀ k w, lookM k (writersOf W i xs) = some w → w < i + xs.length
  | [], i, W, hW, k, w, h => by have := hW k w h; simpa using this
  | d :: r, i, W, hW, k, w, h => by
    have := writers_lt r (i + 1) (putM d.wrote.path i W) (fun k w h => by
      rw [lookM_put] at h
      split at h
      · injection h with h; omega
      · have := hW k w h; omega) k w h
    simp; omega

theorem findP_lt {α : Type} {p : α → Bool} : ∀ (xs : List α) (i : Nat), findP p i xs < (i + xs.length : Nat) ∨ findP p i xs = -1
  | [], i => .inr rfl
  | x :: xs, i => by
    simp only [findP]
    split
    · left; simp; omega
    · rcases findP_lt xs (i + 1) with h | h
      · left; refine Int.lt_of_lt_of_le h ?_; simp; omega
      · exact .inr h
theorem markDown_len (W : List (Bs × Nat)) (xs : List Done) : ∀ (i : Nat) (mk : List Bool), (markDown W xs i mk).length = mk.length
  | 0, mk => rfl
  | i + 1, mk => by
    rw [markDown, markDown_len W xs i]
    split
    · split
      · rw [markReads_len]
      · rfl
    · rfl

def neededE (xs : List Done) (path : Bs) : List Bool × Bool :=
  let at_ := writerE xs path
  if at_ < 0 then ([], false)
  else (markDown (writersOf [] 0 (xs.take at_.toNat)) xs (at_.toNat + 1) ((List.replicate xs.length false).set at_.toNat true), true)
def F_needed : List AV → Option AV := F2 (eSl rDone) eStr (eTup2 (eSl rBool) eBool) fun xs p => if okR xs then some (neededE xs p) else none

theorem needed_L0 (G : Gam) (xs ys : List Done) (p : Bs) (a : Int) (hb : ys.length ≤ big) {ks : List MK} {Q : MPost} : ∀ (rest : List Done) (i : Nat) (W : List (Bs × Nat)), ys.drop i = rest → i ≤ ys.length →
    exM G .normal ks Q [(27, .bool false)] [(0, .sl (doneRows xs)), (1, .str p), (4, .own 0 0 0), (5, .bool false), (6, .int .i64 a), (7, .map 1), (8, .junk), (9, .junk), (10, .junk), (11, .junk), (13, .junk), (14, .junk), (15, .junk), (24, .sl (doneRows ys)), (25, .int .i64 ys.length), (26, .int .i64 ys.length), (57, .junk), (58, .junk), (59, .junk)] [.arr 1 0 [] true, .map (encM eNat (writersOf W i rest))] →
    headM G [8, 9] Mc.record_needed_L0 2 (.blk 0 :: ks) Q [(0, .sl (doneRows xs)), (1, .str p), (4, .own 0 0 0), (5, .bool false), (6, .int .i64 a), (7, .map 1), (8, .junk), (9, .junk), (10, .junk), (11, .junk), (13, .junk), (14, .junk), (15, .junk), (24, .sl (doneRows ys)), (25, .int .i64 ys.length), (26, .int .i64 i), (57, .junk), (58, .junk), (59, .junk)] [.arr 1 0 [] true, .map (encM eNat W)]
  | [], i, W, hd, hi, hk => by
    have hi2 := drop_nil hd
    have e : i = ys.length := by omega
    refine head_go (Mc.record_needed_L0.eq_1) ?_
    simp only [writersOf] at hk
    simpa [trunc, e] using hk
  | d :: rest, i, W, hd, hi, hk => by
    obtain ⟨hi2, hx, hxd⟩ := drop_cons hd
    have hi' : ltB i ys.length = true := ltB_iff.2 (by omega)
    have hw := wrap1 (i := i) (by omega)
    have hia := fun h => iadr_sl (h := h) (k := .i64) (doneRows_get hx) d.row_len
    have ih := needed_L0 G xs ys p a hb rest (i + 1) (putM d.wrote.path i W) hxd (by omega) hk
    have hmu : ∀ st x, opV G st [.arr 1 0 [] true, .map (encM eNat W), x] (.mapup .s) (some [.map 1, .str d.wrote.path, .int .i64 i]) = some (.junk, [.arr 1 0 [] true, .map (encM eNat (putM d.wrote.path i W)), x]) := fun st x => by
      exact op_mapup (V := eNat) (m := W) (v := i) (h := [.arr 1 0 [] true, .map (encM eNat W), x]) rfl rfl rfl rfl
    simp only [Done.row] at hia
    refine head_go (Mc.record_needed_L0.eq_1) ?_
    simp [trunc, hi', hia, hmu, hw]
    refine head_of ?_
    simpa [trunc] using ih

/-- The heap of 'needed' behind its first loop. -/
abbrev nHeap (W : List (Bs × Nat)) (mk : List Bool) : Heap := [.arr 1 0 [] true, .map (encM eNat W), .arr 1 0 (mk.map rBool.enc) true]

theorem needed_L2 (G : Gam) (xs ys : List Done) (p : Bs) (a : Int) (i n : Nat) (W : List (Bs × Nat)) (hW : ∀ k w, lookM k W = some w → w < n) (ts : List Touch) (hb : ts.length ≤ big) {ks : List MK} {Q : MPost} : ∀ (rest : List Touch) (j : Nat) (mk : List Bool), mk.length = n → ts.drop j = rest → j ≤ ts.length →
    exM G .normal ks Q [(60, .bool false)] [(0, .sl (doneRows xs)), (1, .str p), (4, .own 0 0 0), (5, .bool false), (6, .int .i64 a), (7, .map 1), (8, .junk), (9, .junk), (10, .own 2 0 n), (11, .int .i64 i), (13, .junk), (14, .junk), (15, .junk), (24, .sl (doneRows ys)), (25, .int .i64 ys.length), (26, .int .i64 ys.length), (57, .sl (touchRows ts)), (58, .int .i64 ts.length), (59, .int .i64 ts.length)] (nHeap W (markReads W mk rest)) →
    headM G [13, 14, 15] Mc.record_needed_L2 3 (.blk 4 :: ks) Q [(0, .sl (doneRows xs)), (1, .str p), (4, .own 0 0 0), (5, .bool false), (6, .int .i64 a), (7, .map 1), (8, .junk), (9, .junk), (10, .own 2 0 n), (11, .int .i64 i), (13, .junk), (14, .junk), (15, .junk), (24, .sl (doneRows ys)), (25, .int .i64 ys.length), (26, .int .i64 ys.length), (57, .sl (touchRows ts)), (58, .int .i64 ts.length), (59, .int .i64 j)] (nHeap W mk)
  | [], j, mk, hn, hd, hj, hk => by
    have hi2 := drop_nil hd
    have e : j = ts.length := by omega
    refine head_go (Mc.record_needed_L2.eq_1) ?_
    simp only [markReads] at hk
    simpa [trunc, e] using hk
  | t :: rest, j, mk, hn, hd, hj, hk => by
    obtain ⟨hi2, hx, hxd⟩ := drop_cons hd
    have hi' : ltB j ts.length = true := ltB_iff.2 (by omega)
    have hw := wrap1 (i := j) (by omega)
    have hl2 : ∀ st x, opV G st (nHeap W mk ++ [x]) (.look .s true (.int .i64 0)) (some [.map 1, .str t.path]) = some (.tup [((lookM t.path W).map eNat.enc).getD (.int .i64 0), .bool (lookM t.path W).isSome], nHeap W mk ++ [x]) := fun st x => op_look2 (V := eNat) (m := W) rfl
    simp at hl2
    refine head_go (Mc.record_needed_L2.eq_1) ?_
    cases hm : lookM t.path W with
    | none =>
      have ih := needed_L2 G xs ys p a i n W hW ts hb rest (j + 1) mk hn hxd (by omega) (by simpa [markReads, hm] using hk)
      simp [trunc, hi', iadr_sl (touchRows_get hx), hl2, hm, hw]
      refine head_of ?_
      simpa [trunc, nHeap] using ih
    | some w =>
      have hwl := hW _ _ hm
      have ih := needed_L2 G xs ys p a i n W hW ts hb rest (j + 1) (mk.set w true) (by simpa using hn) hxd (by omega) (by simpa [markReads, hm] using hk)
      have hrow : (mk.map rBool.enc)[w]? = some [.bool (mk[w]'(by omega))] := by simp [rBool, rOne, eBool]
      have hia := fun x => iadr_own (h := nHeap W mk ++ [x]) (l := 2) (v := 0) (n := n) (size := 1) (k := .i64) rfl (by simp [hn]) hrow rfl
      have hst := fun st x => op_st_eptr (G := G) (s := st) (h := nHeap W mk ++ [x]) (l := 2) (v := 0) (n := 1) (off := 0) (x := .bool true) rfl hrow rfl (by decide) rfl (by simp) rfl rfl
      have hset : (mk.map rBool.enc).set w [.bool true] = (mk.set w true).map rBool.enc := by rw [List.map_set]; rfl
      have e5 : (mk.map rBool.enc).set w (setAt [AV.bool (mk[w]'(by omega))] 0 (AV.bool true).cells) = (mk.set w true).map rBool.enc := by rw [List.map_set]; rfl
      simp only [e5] at hst
      simp at hia hst
      simp [trunc, hi', iadr_sl (touchRows_get hx), hl2, hm, hw, hia, hst]
      refine head_of ?_
      simpa [trunc, nHeap] using ih


theorem needed_L1 (G : Gam) (xs ys : List Done) (p : Bs) (a : Int) (W : List (Bs × Nat)) (hok : okR xs = true) (hW : ∀ k w, lookM k W = some w → w < xs.length) {ks : List MK} {Q : MPost} :
    ∀ (i : Nat) (mk : List Bool), mk.length = xs.length → i ≤ xs.length →
    exM G .normal ks Q [(45, .bool false), (44, .int .i64 (-1))] [(0, .sl (doneRows xs)), (1, .str p), (4, .own 0 0 0), (5, .bool false), (6, .int .i64 a), (7, .map 1), (8, .junk), (9, .junk), (10, .own 2 0 xs.length), (11, .int .i64 (-1)), (13, .junk), (14, .junk), (15, .junk), (24, .sl (doneRows ys)), (25, .int .i64 ys.length), (26, .int .i64 ys.length), (57, .junk), (58, .junk), (59, .junk)] (nHeap W (markDown W xs i mk)) →
    headM G [13, 14, 15, 57, 58, 59] Mc.record_needed_L1 3 (.blk 2 :: ks) Q [(0, .sl (doneRows xs)), (1, .str p), (4, .own 0 0 0), (5, .bool false), (6, .int .i64 a), (7, .map 1), (8, .junk), (9, .junk), (10, .own 2 0 xs.length), (11, .int .i64 ((i : Int) - 1)), (13, .junk), (14, .junk), (15, .junk), (24, .sl (doneRows ys)), (25, .int .i64 ys.length), (26, .int .i64 ys.length), (57, .junk), (58, .junk), (59, .junk)] (nHeap W mk)
  | 0, mk, hn, hi, hq => by
    refine head_go (Mc.record_needed_L1.eq_1) ?_
    have e : ltB (-1) 0 = true := rfl
    simp only [markDown] at hq
    simpa [trunc, e] using hq
  | i + 1, mk, hn, hi, hq => by
    have hok' := hok
    simp only [okR, Bool.and_eq_true, decide_eq_true_eq] at hok'
    have e1 : (((i + 1 : Nat) : Int) - 1) = (i : Nat) := by omega
    have e2 : ltB (i : Nat) 0 = false := ltB_not.2 (by omega)
    have hws : IntKind.i64.wrap ((i : Int) - 1) = (i : Int) - 1 := by unfold big at hok'; rw [i64_in _ (by omega)]
    rw [e1]
    have hil : i < mk.length := by omega
    have hrow : (mk.map rBool.enc)[i]? = some [.bool (mk[i]'hil)] := by simp [rBool, rOne, eBool]
    have hia := iadr_own (h := nHeap W mk) (l := 2) (v := 0) (n := xs.length) (size := 1) (k := .i64) rfl (by simp [hn]) hrow rfl
    have hld := ld_eptr (h := nHeap W mk) (l := 2) (v := 0) (size := 1) (agg := false) (off := 0) rfl hrow
    have hmi : mk[i]? = some (mk[i]'hil) := by simp
    obtain ⟨d, hx, hxd⟩ := drop_head (xs := xs) (i := i) (by omega)
    have hid := fun h => iadr_sl (h := h) (k := .i64) (doneRows_get hx) d.row_len
    have hrd : d.reads.length ≤ big := by
      have := List.all_eq_true.1 hok'.2 d (List.mem_of_getElem? hx)
      simp only [okD, Bool.and_eq_true, decide_eq_true_eq] at this; exact this.1.1
    have rd := fun ks Q hk => needed_L2 G xs ys p a i xs.length W hW d.reads hrd (ks := ks) (Q := Q) d.reads 0 mk hn rfl (by omega) hk
    simp [Done.row] at hia hld hid rd
    generalize mk[i]'hil = b at hmi hia hld hrow
    refine head_go (Mc.record_needed_L1.eq_1) ?_
    cases b with
    | false =>
      have ih := needed_L1 G xs ys p a W hok hW i mk hn (by omega) (by simpa [markDown, hmi] using hq)
      simp [trunc, e2, hia, hld, hws]
      refine head_of ?_
      simpa [trunc, nHeap] using ih
    | true =>
      have ih := needed_L1 G xs ys p a W hok hW i (markReads W mk d.reads) (by rw [markReads_len]; exact hn) (by omega) (by simpa [markDown, hmi, hx] using hq)
      simp [trunc, e2, hia, hld, hid]
      refine rd _ _ ?_
      simp [hws]
      refine head_of ?_
      simpa [trunc, nHeap] using ih

theorem needed_ok (G : Gam) (hWr : G Fn.record_Writer = some (.pure F_Writer)) : ∀ args r, F_needed args = some r → wpM G Mc.record_needed (pureQ Rs.record_needed r) [] (frInit Ks.record_needed args) [] := F2_ok fun xs p r h => by
  split at h
  · rename_i ho
    injection h with h; subst h
    rw [wpM_go, eSl_done]
    have hc : ∀ st h, opV G st h (.call Fn.record_Writer) (some [.sl (doneRows xs), .str p]) = some (.int .i64 (writerE xs p), h) := fun st h => op_call hWr rfl (F2_use (A := eSl rDone) (B := eStr) (R := eInt) (x := xs) (y := p) (if_pos ho)) (.inl rfl)
    have hb := ho
    simp only [okR, Bool.and_eq_true, decide_eq_true_eq] at hb
    by_cases c1 : writerE xs p < 0
    · have e : ltB (writerE xs p) 0 = true := ltB_iff.2 c1
      simp [Mc.record_needed, frInit, Ks.record_needed, hc, e, Rs.record_needed, neededE, c1, eSl, rowsOf]
    · have e : ltB (writerE xs p) 0 = false := ltB_not.2 (by omega)
      obtain ⟨a, ha⟩ : ∃ a : Nat, writerE xs p = a := ⟨(writerE xs p).toNat, by omega⟩
      have hlt : a < xs.length := by
        have : writerE xs p < xs.length := by
          unfold writerE; split
          · rcases findP_lt (p := fun d : Done => d.wrote.path == p) xs 0 with h | h
            · simpa using h
            · rw [h]; omega
          · omega
        omega
      have hslc : ∀ st h, opV G st h (.slc (some 6) false true false) (some [.sl (doneRows xs), .int .i64 a]) = some (.sl (doneRows (xs.take a)), h) := fun st h => by
        rw [op_slc_hi (rows := doneRows xs) (by simp; omega) (sizesOk_map (fun d => d.row_len) xs)]; simp [doneRows, List.map_take]
      have hlen : (xs.take a).length = a := by simp; omega
      have l0 := fun ks Q hk => needed_L0 G xs (xs.take a) p a (by omega) (ks := ks) (Q := Q) (xs.take a) 0 [] rfl (by omega) hk
      have hW : ∀ k w, lookM k (writersOf [] 0 (xs.take a)) = some w → w < xs.length := fun k w h => by
        have := writers_lt (xs.take a) 0 [] (fun k w h => by simp [lookM] at h) k w h
        omega
      generalize hWd : writersOf [] 0 (xs.take a) = W at l0 hW
      have hmk := fun st h => op_mksl (G := G) (s := st) (h := h) (zero := [.bool false]) (bytes := 1) (n := xs.length) (k := .i64) (k' := .i64) (by have := hb.1; unfold big at this; unfold byteMax; omega) (by have := hb.1; unfold big at this; unfold byteMax; omega)
      have hrep : List.replicate xs.length [AV.bool false] = (List.replicate xs.length false).map rBool.enc := by rw [List.map_replicate]; rfl
      have hrow : ((List.replicate xs.length false).map rBool.enc)[a]? = some [.bool false] := by simp [rBool, rOne, eBool, List.getElem?_replicate, hlt]
      have hia := iadr_own (h := nHeap W (List.replicate xs.length false)) (l := 2) (v := 0) (n := xs.length) (size := 1) (k := .i64) rfl (by simp) hrow rfl
      have hst := fun st => op_st_eptr (G := G) (s := st) (h := nHeap W (List.replicate xs.length false)) (l := 2) (v := 0) (n := 1) (off := 0) (x := .bool true) rfl hrow rfl (by decide) rfl (by simp) rfl rfl
      have e5 : ((List.replicate xs.length false).map rBool.enc).set a (setAt [AV.bool false] 0 (AV.bool true).cells) = ((List.replicate xs.length false).set a true).map rBool.enc := by rw [List.map_set]; rfl
      simp only [e5] at hst
      have hml : ((List.replicate xs.length false).set a true).length = xs.length := by simp
      have hr : neededE xs p = (markDown W xs (a + 1) ((List.replicate xs.length false).set a true), true) := by simp [neededE, ha, hWd]
      generalize (List.replicate xs.length false).set a true = mk0 at hml hst hr
      have l1 := fun ks Q hk => needed_L1 G xs (xs.take a) p a W ho hW (ks := ks) (Q := Q) (a + 1) mk0 hml (by omega) hk
      have e6 : (((a + 1 : Nat) : Int) - 1) = a := by omega
      rw [e6] at l1
      rw [ha] at hc e
      have hfl : (markDown W xs (a + 1) mk0).length = xs.length := by rw [markDown_len]; exact hml
      simp only [hrep] at hmk
      simp [hlen, nHeap] at l0 hia hst l1
      simp [Mc.record_needed, frInit, Ks.record_needed, hc, e, hslc, hlen]
      refine l0 _ _ ?_
      simp [hmk, hia, hst]
      refine l1 _ _ ?_
      rw [hr]
      have hro : rowsOf (nHeap W (markDown W xs (a + 1) mk0)) (.own 2 0 xs.length) = some ((markDown W xs (a + 1) mk0).map rBool.enc) := rows_own rfl (by simp [hfl])
      simp only [nHeap] at hro
      simp [Rs.record_needed, hro, eSl]
  · cases h

end Go.Proofs.YtmjdgpiofhildaaGreatDoor
