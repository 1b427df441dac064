/- record.Check. -/
import Derived.Test.YtmjdgpiofhildaaDoorRecC
namespace Go.Proofs.YtmjdgpiofhildaaDoor
open Go.RowKit Go.IntWalk

def rangeBad (s : Done) : Bool := ltB s.pkg 0 || !ltB s.pkg 16 || ltB s.line 0 || !ltB s.line 1024 || ltB s.kind 1 || ltB 8 s.kind
def orderBad (p s : Done) : Bool := ltB s.pkg p.pkg || eqB s.pkg p.pkg && !ltB p.line s.line
def countBad (s : Done) : Bool := eqB s.reads.length 0 || ltB 1024 s.reads.length
def putReads (m : List (Bs × Bs)) : List Touch → List (Bs × Bs)
  | [] => m
  | t :: ts => putReads (putM t.path t.dig m) ts
def checkFrom (m : List (Bs × Bs)) (prev : Option Done) : List Done → Int
  | [] => 0
  | s :: rest => if rangeBad s then 3 else if prev.any (orderBad · s) then 5 else if countBad s then 1
    else if filesE m s = 0 then checkFrom (putM s.wrote.path s.wrote.dig (putReads m s.reads)) (some s) rest else filesE m s
def checkE (r : List Done) : Int := if 1024 < r.length then 10 else checkFrom [] none r

theorem chk_reads (G : Gam) (rows : List (List AV)) (i n : Int) (s : Done) (hb : s.reads.length ≤ big) {ks : List MK} {Q : MPost} : ∀ (rest : List Touch) (j : Nat) (m : List (Bs × Bs)), s.reads.drop j = rest → j ≤ s.reads.length →
    exM G .normal ks Q [(106, .bool false)] [(0, .sl rows), (2, .int .i64 0), (3, .map 0), (4, .int .i64 i), (5, .ptr 1 0), (6, .int .i64 0), (8, .junk), (13, .sl rows), (14, .int .i64 n), (15, .int .i64 i), (103, .sl (touchRows s.reads)), (104, .int .i64 s.reads.length), (105, .int .i64 s.reads.length)] [.map (encM eStr (putReads m rest)), .cells s.row] →
    headM G [8] Mc.record_Check_L1 2 (.blk 3 :: ks) Q [(0, .sl rows), (2, .int .i64 0), (3, .map 0), (4, .int .i64 i), (5, .ptr 1 0), (6, .int .i64 0), (8, .junk), (13, .sl rows), (14, .int .i64 n), (15, .int .i64 i), (103, .sl (touchRows s.reads)), (104, .int .i64 s.reads.length), (105, .int .i64 j)] [.map (encM eStr m), .cells s.row]
  | [], j, m, hd, hj, hk => by
    have hi2 := drop_nil hd
    have e : j = s.reads.length := by omega
    refine head_go (Mc.record_Check_L1.eq_1) ?_
    simp only [putReads] at hk
    simpa [trunc, Done.row, e] using hk
  | t :: rest, j, m, hd, hj, hk => by
    obtain ⟨hi2, hx, hxd⟩ := drop_cons hd
    have hi' : ltB j s.reads.length = true := ltB_iff.2 (by omega)
    have hw := wrap1 (i := j) (by omega)
    have ih := chk_reads G rows i n s hb rest (j + 1) (putM t.path t.dig m) hxd (by omega) hk
    have hmu : ∀ st x, opV G st [.map (encM eStr m), .cells s.row, x] (.mapup .s) (some [.map 0, .str t.path, .str t.dig]) = some (.junk, [.map (encM eStr (putM t.path t.dig m)), .cells s.row, x]) := fun st x => by
      exact op_mapup (V := eStr) (m := m) (v := t.dig) (h := [.map (encM eStr m), .cells s.row, x]) rfl rfl rfl rfl
    simp only [Done.row] at hmu
    refine head_go (Mc.record_Check_L1.eq_1) ?_
    simp [trunc, Done.row, hi', iadr_sl (touchRows_get hx), cut, mkVal, hmu, hw]
    refine head_of ?_
    simpa [trunc, Done.row] using ih

attribute [local congr] ite_congr in
theorem chk_loop (G : Gam) (hG : G Fn.record_files = some (.gen (lookF F_files))) (xs : List Done) (hok : okR xs = true) {ks : List MK} (r : Int) :
    ∀ (rest : List Done) (i : Nat) (m : List (Bs × Bs)) (prev : Option Done), xs.drop i = rest → i ≤ xs.length → (match prev with | none => i = 0 | some p => ∃ j, i = j + 1 ∧ xs[j]? = some p) → r = checkFrom m prev rest →
    (∀ m', r = 0 → exM G .normal ks (pureQ Rs.record_Check (.int .i64 r)) [(16, .bool false)] [(0, .sl (doneRows xs)), (2, .int .i64 0), (3, .map 0), (4, .junk), (5, .junk), (6, .junk), (8, .junk), (13, .sl (doneRows xs)), (14, .int .i64 xs.length), (15, .int .i64 xs.length), (103, .junk), (104, .junk), (105, .junk)] [.map (encM eStr m')]) →
    headM G [4, 5, 6, 8, 103, 104, 105] Mc.record_Check_L0 1 (.blk 0 :: ks) (pureQ Rs.record_Check (.int .i64 r)) [(0, .sl (doneRows xs)), (2, .int .i64 0), (3, .map 0), (4, .junk), (5, .junk), (6, .junk), (8, .junk), (13, .sl (doneRows xs)), (14, .int .i64 xs.length), (15, .int .i64 i), (103, .junk), (104, .junk), (105, .junk)] [.map (encM eStr m)]
  | [], i, m, prev, hd, hi, hp, hr, hk => by
    have hi2 := drop_nil hd
    have e : i = xs.length := by omega
    simp only [checkFrom] at hr
    have hk' := hk m hr
    refine head_go (Mc.record_Check_L0.eq_1) ?_
    simpa [trunc, e] using hk'
  | s :: rest, i, m, prev, hd, hi, hp, hr, hk => by
    simp only [okR, Bool.and_eq_true, decide_eq_true_eq] at hok
    obtain ⟨hi2, hx, hxd⟩ := drop_cons hd
    have hds : okD s = true := List.all_eq_true.1 hok.2 s (List.mem_of_getElem? hx)
    have hds' := hds
    simp only [okD, Bool.and_eq_true, decide_eq_true_eq] at hds'
    have hi' : ltB i xs.length = true := ltB_iff.2 (by omega)
    have hw := wrap1 (i := i) (by omega)
    have hia := iadr_sl (h := [Blk.map (encM eStr m)]) (k := .i64) (doneRows_get hx) s.row_len
    have hcut : mkVal true 6 (cut s.row 0 6) = some (.agg s.row) := rfl
    simp only [Done.row] at hia hcut
    refine head_go (Mc.record_Check_L0.eq_1) ?_
    cases c1 : rangeBad s with
    | true =>
      simp only [checkFrom, c1, if_true] at hr
      subst hr
      unfold rangeBad at c1
      simp +contextual [trunc, hi', hia, hcut, mkVal, cut]
      rw [c1]
      simp [Rs.record_Check]
    | false =>
      simp only [checkFrom, c1, Bool.false_eq_true, if_false] at hr
      unfold rangeBad at c1
      have hc : opV G false [.map (encM eStr m), .cells s.row] (.call Fn.record_files) (some [.agg s.row, .map 0]) = some (.int .i64 (filesE m s), [.map (encM eStr m), .cells s.row]) := by
        rw [op_call_gen hG]
        have hlow : lowL 4 s.row = true := rfl
        simp [lookF, F_files, decM_de, hds, hlow]
      have hmu : ∀ st m, opV G st [.map (encM eStr m), .cells s.row] (.mapup .s) (some [.map 0, .str s.wrote.path, .str s.wrote.dig]) = some (.junk, [.map (encM eStr (putM s.wrote.path s.wrote.dig m)), .cells s.row]) := fun st m => by
        exact op_mapup (V := eStr) (m := m) (v := s.wrote.dig) (h := [.map (encM eStr m), .cells s.row]) rfl rfl rfl rfl
      have rd := fun ks Q hk => chk_reads G (doneRows xs) i xs.length s hds'.1.1 (ks := ks) (Q := Q) s.reads 0 m rfl (by omega) hk
      simp only [Done.row] at hc hmu
      simp [Done.row] at rd
      have fin : countBad s = false → checkFrom m prev (s :: rest) = (if filesE m s = 0 then checkFrom (putM s.wrote.path s.wrote.dig (putReads m s.reads)) (some s) rest else filesE m s) → prev.any (orderBad · s) = false → r = (if filesE m s = 0 then checkFrom (putM s.wrote.path s.wrote.dig (putReads m s.reads)) (some s) rest else filesE m s) := fun h1 h2 h3 => by
        simp only [h3, Bool.false_eq_true, if_false, h1] at hr; exact hr
      have next := fun hr' => chk_loop G hG xs (by simp only [okR, Bool.and_eq_true, decide_eq_true_eq]; exact hok) r rest (i + 1) (putM s.wrote.path s.wrote.dig (putReads m s.reads)) (some s) hxd (by omega) ⟨i, rfl, hx⟩ hr' hk
      match prev, hp with
      | none, hp =>
        have hi0 : ltB 0 i = false := ltB_not.2 (by omega)
        simp only [Option.any_none, Bool.false_eq_true, if_false] at hr
        cases c2 : countBad s with
        | true =>
          simp only [c2, if_true] at hr
          subst hr
          unfold countBad at c2
          simp +contextual [trunc, hi', hia, hcut, mkVal, cut]
          rw [c1]
          simp +contextual [hi0, cut, mkVal]
          rw [c2]
          simp [Rs.record_Check]
        | false =>
          simp only [c2, Bool.false_eq_true, if_false] at hr
          unfold countBad at c2
          simp +contextual [trunc, hi', hia, hcut, mkVal, cut]
          rw [c1]
          simp +contextual [hi0, cut, mkVal]
          rw [c2]
          by_cases c3 : filesE m s = 0
          · simp only [c3, if_true] at hr
            simp [hc, c3, mkVal, cut]
            refine rd _ _ ?_
            simp [cut, mkVal, hmu, hw]
            refine head_of ?_
            simpa [trunc] using next hr
          · have e3 : eqB (filesE m s) 0 = false := eqB_not.2 c3
            simp only [c3, if_false] at hr
            subst hr
            simp [hc, e3, mkVal, cut, Rs.record_Check]
      | some p, ⟨j, hj, hpj⟩ =>
        have hi0 : ltB 0 i = true := ltB_iff.2 (by omega)
        have hws : IntKind.i64.wrap ((i : Int) - 1) = (j : Nat) := by unfold big at hok; rw [i64_in _ (by omega)]; omega
        have hip := fun h => iadr_sl (h := h) (k := .i64) (doneRows_get hpj) p.row_len
        simp only [Done.row] at hip
        simp only [Option.any_some] at hr
        cases c0 : orderBad p s with
        | true =>
          simp only [c0, if_true] at hr
          subst hr
          unfold orderBad at c0
          simp +contextual [trunc, hi', hia, hcut, mkVal, cut]
          rw [c1]
          simp +contextual [hi0, hws, hip, cut]
          rw [c0]
          simp [Rs.record_Check]
        | false =>
          simp only [c0, Bool.false_eq_true, if_false] at hr
          unfold orderBad at c0
          cases c2 : countBad s with
          | true =>
            simp only [c2, if_true] at hr
            subst hr
            unfold countBad at c2
            simp +contextual [trunc, hi', hia, hcut, mkVal, cut]
            rw [c1]
            simp +contextual [hi0, hws, hip, cut]
            rw [c0]
            simp +contextual [cut, mkVal]
            rw [c2]
            simp [Rs.record_Check]
          | false =>
            simp only [c2, Bool.false_eq_true, if_false] at hr
            unfold countBad at c2
            simp +contextual [trunc, hi', hia, hcut, mkVal, cut]
            rw [c1]
            simp +contextual [hi0, hws, hip, cut]
            rw [c0]
            simp +contextual [cut, mkVal]
            rw [c2]
            by_cases c3 : filesE m s = 0
            · simp only [c3, if_true] at hr
              simp [hc, c3, mkVal, cut]
              refine rd _ _ ?_
              simp [cut, mkVal, hmu, hw]
              refine head_of ?_
              simpa [trunc] using next hr
            · have e3 : eqB (filesE m s) 0 = false := eqB_not.2 c3
              simp only [c3, if_false] at hr
              subst hr
              simp [hc, e3, mkVal, cut, Rs.record_Check]

def F_Check : List AV → Option AV := F1 (eSl rDone) eInt fun r => if okR r then some (checkE r) else none
theorem Check_ok (G : Gam) (hG : G Fn.record_files = some (.gen (lookF F_files))) : ∀ args r, F_Check args = some r → wpM G Mc.record_Check (pureQ Rs.record_Check r) [] (frInit Ks.record_Check args) [] := F1_ok fun xs r h => by
  split at h
  · rename_i ho
    injection h with h; subst h
    rw [wpM_go, eSl_done]
    have lp := fun ks hk => chk_loop G hG xs ho (ks := ks) (checkFrom [] none xs) xs 0 [] none rfl (by omega) rfl rfl hk
    cases c1 : ltB 1024 xs.length with
    | true =>
      have := ltB_iff.1 c1
      have e : 1024 < xs.length := by omega
      simp [Mc.record_Check, frInit, Ks.record_Check, Rs.record_Check, c1, checkE, e, eInt]
    | false =>
      have := ltB_not.1 c1
      have e : ¬ 1024 < xs.length := by omega
      simp [Mc.record_Check, frInit, Ks.record_Check, c1, checkE, e, eInt]
      refine lp _ (fun m' h0 => ?_)
      simp [Rs.record_Check, h0]
  · cases h
end Go.Proofs.YtmjdgpiofhildaaDoor
