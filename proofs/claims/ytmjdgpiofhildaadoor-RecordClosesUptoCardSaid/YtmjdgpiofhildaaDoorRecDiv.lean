/- Where two records part. -/
import Derived.Test.YtmjdgpiofhildaaDoorRecEq
namespace Go.Proofs.YtmjdgpiofhildaaDoor
open Go.RowKit Go.IntWalk

/-- The first place, from i on, at which the lists differ; -1: none. -/
def divFrom (i : Nat) : List Done → List Done → Int
  | [], [] => -1
  | x :: xs, y :: ys => if x = y then divFrom (i + 1) xs ys else i
  | _, _ => i

def okReads (xs : List Done) : Bool := xs.all fun d => decide (d.reads.length ≤ big)

def F_Diverge : List AV → Option AV
  | [.sl a, .sl b] => match decAll decDone a, decAll decDone b with
    | some x, some y => if x.length ≤ big ∧ y.length ≤ big ∧ okReads x then some (.int .i64 (divFrom 0 x y)) else none
    | _, _ => none
  | _ => none

theorem Done.row_len (d : Done) : d.row.length = 6 := rfl

@[simp] theorem op_min {G : Gam} {s : Bool} {h : Heap} {x y : AV} : opV G s h .min (some [x, y]) = (minAV x y).map fun v => (v, h) := by rw [opV_quiet rfl]; rfl

theorem refDiv_loop (G : Gam) (hG : G Fn.licitref17_Equal = some (.pure F_equal)) (r : AV) (xs ys : List Done) (hbx : xs.length ≤ big) (hby : ys.length ≤ big) (hok : okReads xs = true) : ∀ (n : Nat) (i : Nat), xs.length + ys.length - i = n → i ≤ xs.length → i ≤ ys.length → r = .int .i64 (divFrom i (xs.drop i) (ys.drop i)) →
    headM G [] Mc.licitref17_Diverge_L0 0 [.blk 0, .seq (.seq (.reg [⟨none, some 4, true, .mv, [.c (.int .i64 (-1))]⟩]) .ret)] (pureQ Rs.licitref17_Diverge r)
    [(0, .sl (doneRows xs)), (1, .sl (doneRows ys)), (4, .int .i64 0), (5, .int .i64 i)] [] := by
  intro n
  induction n with
  | zero =>
    intro i hn h1 h2 hr
    have e1 : xs = [] := List.length_eq_zero_iff.1 (by omega)
    have e2 : ys = [] := List.length_eq_zero_iff.1 (by omega)
    subst e1 e2
    simp at h1; subst h1
    refine head_go (Mc.licitref17_Diverge_L0.eq_1) ?_
    simp [divFrom] at hr; subst hr
    simp [junkAll, trunc, lowFr, low, lowL, lowH, lowB, lenAV, binAV, intBin, ltB, eqB, doneRows, pureQ, Rs.licitref17_Diverge, resAV, resL, resOne, view]
  | succ n ih =>
    intro i hn h1 h2 hr
    refine head_go (Mc.licitref17_Diverge_L0.eq_1) ?_
    by_cases c1 : i < xs.length
    · obtain ⟨x, hx, hxd⟩ := drop_head c1
      have c1' : (i : Int) < xs.length := by omega
      by_cases c2 : i < ys.length
      · obtain ⟨y, hy, hyd⟩ := drop_head c2
        have c2' : (i : Int) < ys.length := by omega
        have n1 : ¬ (xs.length : Int) ≤ i := by omega
        have n2 : ¬ (ys.length : Int) ≤ i := by omega
        have hrx : x.reads.length ≤ big := by
          have := List.all_eq_true.1 hok x (List.mem_of_getElem? hx); simpa using this
        have hc : ∀ s2 h, opV G s2 h (.call Fn.licitref17_Equal) (some [.agg x.row, .agg y.row]) = some (.bool (decide (x = y)), h) := fun s2 h => op_call hG (us := [.agg x.row, .agg y.row]) (by simp [viewL, view, Done.row]) (by simp [F_equal, hrx]) (.inl rfl)
        have hw : IntKind.i64.wrap ((i : Int) + 1) = ((i + 1 : Nat) : Int) := by unfold big at hbx; rw [i64_in _ (by omega)]; rfl
        have hcut : ∀ d : Done, mkVal true 6 (cut d.row 0 6) = some (.agg d.row) := fun d => rfl
        rw [hxd, hyd] at hr
        by_cases he : x = y
        · simp only [divFrom, if_pos he] at hr
          subst he
          simp [junkAll, trunc, lowFr, low, lowL, lowH, lowB, lenAV, binAV, intBin, ltB, eqB, c1', n1, n2, iadr_sl (doneRows_get hx) x.row_len, iadr_sl (doneRows_get hy) x.row_len, hcut, hc, unAV, hw]
          refine head_of ?_
          have := ih (i + 1) (by omega) (by omega) (by omega) hr
          simpa [junkAll, trunc, lowFr, low, lowL, lowH, lowB] using this
        · simp only [divFrom, if_neg he] at hr
          subst hr
          simp [junkAll, trunc, lowFr, low, lowL, lowH, lowB, lenAV, binAV, intBin, ltB, eqB, c1', n1, n2, iadr_sl (doneRows_get hx) x.row_len, iadr_sl (doneRows_get hy) y.row_len, hcut, hc, he, unAV, pureQ, Rs.licitref17_Diverge, resAV, resL, resOne, view]
      · have n1 : ¬ (xs.length : Int) ≤ i := by omega
        have n2 : (ys.length : Int) ≤ i := by omega
        have hyd : ys.drop i = [] := by rw [List.drop_eq_nil_iff]; omega
        rw [hxd, hyd] at hr
        simp only [divFrom] at hr
        subst hr
        simp [junkAll, trunc, lowFr, low, lowL, lowH, lowB, lenAV, binAV, intBin, ltB, eqB, c1', n1, n2, pureQ, Rs.licitref17_Diverge, resAV, resL, resOne, view]
    · have m1 : ¬ (i : Int) < xs.length := by omega
      have hxd : xs.drop i = [] := by rw [List.drop_eq_nil_iff]; omega
      by_cases c2 : i < ys.length
      · obtain ⟨y, hy, hyd⟩ := drop_head c2
        have c2' : (i : Int) < ys.length := by omega
        have n1 : (xs.length : Int) ≤ i := by omega
        rw [hxd, hyd] at hr
        simp only [divFrom] at hr
        subst hr
        simp [junkAll, trunc, lowFr, low, lowL, lowH, lowB, lenAV, binAV, intBin, ltB, eqB, m1, c2', n1, pureQ, Rs.licitref17_Diverge, resAV, resL, resOne, view]
      · have m2 : ¬ (i : Int) < ys.length := by omega
        have hyd : ys.drop i = [] := by rw [List.drop_eq_nil_iff]; omega
        rw [hxd, hyd] at hr
        simp only [divFrom] at hr
        subst hr
        simp [junkAll, trunc, lowFr, low, lowL, lowH, lowB, lenAV, binAV, intBin, ltB, eqB, m1, m2, pureQ, Rs.licitref17_Diverge, resAV, resL, resOne, view]

theorem refDiverge_ok (G : Gam) (hG : G Fn.licitref17_Equal = some (.pure F_equal)) (args : List AV) (r : AV) (h : F_Diverge args = some r) : wpM G Mc.licitref17_Diverge (pureQ Rs.licitref17_Diverge r) [] (frInit Ks.licitref17_Diverge args) [] := by
  unfold F_Diverge at h
  split at h
  · rename_i a b
    split at h
    · rename_i xs ys h1 h2
      have := decAll_of (enc := Done.row) (fun r x => decDone_of) h1; subst this
      have := decAll_of (enc := Done.row) (fun r x => decDone_of) h2; subst this
      split at h
      · rename_i hb
        injection h with h
        rw [wpM_go]
        have ih := refDiv_loop G hG r xs ys hb.1 hb.2.1 hb.2.2 _ 0 rfl (by omega) (by omega) h.symm
        simpa [Mc.licitref17_Diverge, frInit, Ks.licitref17_Diverge, doneRows] using ih
      · cases h
    · cases h
  · cases h

/-- What 'divFrom' says once the shorter list is over. -/
theorem recDiv_loop (G : Gam) (hG : G Fn.record_equal = some (.pure F_equal)) (r : AV) (xs ys : List Done) (n : Nat) (hn : n = min xs.length ys.length) (hbx : xs.length ≤ big) (hok : okReads xs = true) (K : List MK) (hK : ∀ fr, fr = [(0, .sl (doneRows xs)), (1, .sl (doneRows ys)), (4, .int .i64 0), (5, .int .i64 n), (6, .junk), (12, .int .i64 n), (13, .int .i64 n)] → r = .int .i64 (divFrom n (xs.drop n) (ys.drop n)) → exM G .normal K (pureQ Rs.record_Diverge r) [(14, .bool false)] fr []) : ∀ (m : Nat) (i : Nat), n - i = m → i ≤ n → r = .int .i64 (divFrom i (xs.drop i) (ys.drop i)) →
    headM G [6] Mc.record_Diverge_L0 0 (.blk 0 :: K) (pureQ Rs.record_Diverge r)
    [(0, .sl (doneRows xs)), (1, .sl (doneRows ys)), (4, .int .i64 0), (5, .int .i64 n), (6, .junk), (12, .int .i64 n), (13, .int .i64 i)] [] := by
  intro m
  induction m with
  | zero =>
    intro i hm hi hr
    have : i = n := by omega
    subst this
    refine head_go (Mc.record_Diverge_L0.eq_1) ?_
    simp [junkAll, trunc, lowFr, low, lowL, lowH, lowB, binAV, intBin, ltB, eqB]
    exact hK _ rfl hr
  | succ m ih =>
    intro i hm hi hr
    refine head_go (Mc.record_Diverge_L0.eq_1) ?_
    have hin : (i : Int) < n := by omega
    obtain ⟨x, hx, hxd⟩ := drop_head (xs := xs) (i := i) (by omega)
    obtain ⟨y, hy, hyd⟩ := drop_head (xs := ys) (i := i) (by omega)
    have hrx : x.reads.length ≤ big := by
      have := List.all_eq_true.1 hok x (List.mem_of_getElem? hx); simpa using this
    have hc : ∀ s2 h, opV G s2 h (.call Fn.record_equal) (some [.agg x.row, .agg y.row]) = some (.bool (decide (x = y)), h) := fun s2 h => op_call hG (us := [.agg x.row, .agg y.row]) (by simp [viewL, view, Done.row]) (by simp [F_equal, hrx]) (.inl rfl)
    have hw : IntKind.i64.wrap ((i : Int) + 1) = ((i + 1 : Nat) : Int) := by unfold big at hbx; rw [i64_in _ (by omega)]; rfl
    have hcut : ∀ d : Done, mkVal true 6 (cut d.row 0 6) = some (.agg d.row) := fun d => rfl
    rw [hxd, hyd] at hr
    by_cases he : x = y
    · simp only [divFrom, if_pos he] at hr
      subst he
      simp [junkAll, trunc, lowFr, low, lowL, lowH, lowB, binAV, intBin, ltB, eqB, hin, iadr_sl (doneRows_get hx) x.row_len, iadr_sl (doneRows_get hy) x.row_len, hcut, hc, unAV, hw]
      refine head_of ?_
      have := ih (i + 1) (by omega) (by omega) hr
      simpa [junkAll, trunc, lowFr, low, lowL, lowH, lowB] using this
    · simp only [divFrom, if_neg he] at hr
      subst hr
      simp [junkAll, trunc, lowFr, low, lowL, lowH, lowB, binAV, intBin, ltB, eqB, hin, iadr_sl (doneRows_get hx) x.row_len, iadr_sl (doneRows_get hy) y.row_len, hcut, hc, he, unAV, pureQ, Rs.record_Diverge, resAV, resL, resOne, view]

theorem recDiverge_ok (G : Gam) (hG : G Fn.record_equal = some (.pure F_equal)) (args : List AV) (r : AV) (h : F_Diverge args = some r) : wpM G Mc.record_Diverge (pureQ Rs.record_Diverge r) [] (frInit Ks.record_Diverge args) [] := by
  unfold F_Diverge at h
  split at h
  · rename_i a b
    split at h
    · rename_i xs ys h1 h2
      have := decAll_of (enc := Done.row) (fun r x => decDone_of) h1; subst this
      have := decAll_of (enc := Done.row) (fun r x => decDone_of) h2; subst this
      split at h
      · rename_i hb
        injection h with h
        rw [wpM_go]
        have hmin : (if ys.length < xs.length then (ys.length : Int) else xs.length) = ((min xs.length ys.length : Nat) : Int) := by split <;> omega
        have loop := fun K hK => recDiv_loop G hG r xs ys _ rfl hb.1 hb.2.2 K hK _ 0 rfl (by omega) h.symm
        simp [Mc.record_Diverge, frInit, Ks.record_Diverge, lenAV, minAV, hmin]
        have hd : xs.map Done.row = doneRows xs := rfl
        have hd2 : ys.map Done.row = doneRows ys := rfl
        rw [hd, hd2]
        rw [show (0 : Int) = ((0 : Nat) : Int) from rfl]
        refine loop _ (fun fr hfr hr => ?_)
        subst hfr hr
        by_cases e : xs.length = ys.length
        · have hxd : xs.drop (min xs.length ys.length) = [] := by rw [List.drop_eq_nil_iff]; omega
          have hyd : ys.drop (min xs.length ys.length) = [] := by rw [List.drop_eq_nil_iff]; omega
          rw [hxd, hyd]
          simp [lenAV, binAV, intBin, ltB, eqB, e, divFrom, pureQ, Rs.record_Diverge, resAV, resL, resOne, view]
        · have hbe : ((xs.length : Int) == ys.length) = false := by simp; omega
          have hdv : divFrom (min xs.length ys.length) (xs.drop (min xs.length ys.length)) (ys.drop (min xs.length ys.length)) = (min xs.length ys.length : Nat) := by
            rcases Nat.lt_or_ge xs.length ys.length with c | c
            · have hxd : xs.drop (min xs.length ys.length) = [] := by rw [List.drop_eq_nil_iff]; omega
              obtain ⟨y, _, hyd⟩ := drop_head (xs := ys) (i := min xs.length ys.length) (by omega)
              rw [hxd, hyd]; rfl
            · have hyd : ys.drop (min xs.length ys.length) = [] := by rw [List.drop_eq_nil_iff]; omega
              obtain ⟨x, _, hxd⟩ := drop_head (xs := xs) (i := min xs.length ys.length) (by omega)
              rw [hxd, hyd]; rfl
          rw [hdv]
          simp [lenAV, binAV, intBin, ltB, eqB, hbe, pureQ, Rs.record_Diverge, resAV, resL, resOne, view]
      · cases h
    · cases h
  · cases h

end Go.Proofs.YtmjdgpiofhildaaDoor
