/- The reference: step, Check, Writer, Few. -/
import Derived.Test.YtmjdgpiofhildaaDoorRecG
namespace Go.Proofs.YtmjdgpiofhildaaDoor
open Go.RowKit Go.IntWalk

def refFiles (before : Bs → Option Bs) (s : Done) : Nat → List Touch → Int
  | _, [] => 0
  | k, t :: rest =>
    if pathOK t.path then
      (if t.dig.length = 32 then
        (if (!ltB (findP (fun u => u.path == t.path) 0 (s.reads.take k)) 0 || eqB k s.reads.length && (before t.path).isSome) = true then 6
         else if (before t.path).any (fun d => d != t.dig) then 9
         else refFiles before s (k + 1) rest)
       else 17)
    else 2
def stepE (xs : List Done) (i : Nat) (s : Done) : Int :=
  if rangeBad s then 3 else if (if i = 0 then none else xs[i - 1]?).any (orderBad · s) then 5 else if countBad s then 1
  else refFiles (fun p => touchedL p (xs.take i)) s 0 (s.reads ++ [s.wrote])
def F_step : List AV → Option AV := F2 (eSl rDone) eNat eInt fun xs i => if okR xs then (xs[i]?).map (stepE xs i) else none

theorem step_loop (G : Gam) (hP : G Fn.licitref16_Path = some (.pure F_refPath)) (hT : G Fn.licitref17_touched = some (.pure F_rtouched)) (hA : G Fn.licitref17_among = some (.pure F_among)) (xs : List Done) (i : Nat) (s : Done) (hok : okR xs = true) (hi : i ≤ xs.length) (hs : okD s = true) (r : Int) :
    ∀ (rest : List Touch) (k : Nat), (s.reads ++ [s.wrote]).drop k = rest → k ≤ s.reads.length + 1 → refFiles (fun p => touchedL p (xs.take i)) s k rest = r →
    headM G [7, 8, 9] Mc.licitref17_step_L0 1 [.blk 0, .seq (.seq (.reg [⟨none, some 4, true, .mv, [.c (.int .i64 0)]⟩]) .ret)] (pureQ Rs.licitref17_step (.int .i64 r))
    [(0, .sl (doneRows xs)), (1, .int .i64 i), (4, .int .i64 0), (5, .ptr 0 0), (6, .int .i64 k), (7, .junk), (8, .junk), (9, .junk)] [.cells s.row]
  | [], k, hd, hk, hr => by
    have hi2 := drop_nil hd
    simp at hi2
    have hle : ltB s.reads.length k = true := ltB_iff.2 (by omega)
    simp only [refFiles] at hr
    subst hr
    refine head_go (Mc.licitref17_step_L0.eq_1) ?_
    simp [trunc, Done.row, hle, Rs.licitref17_step]
  | t :: rest, k, hd, hk, hr => by
    obtain ⟨hi2, hx, hxd⟩ := drop_cons hd
    simp at hi2
    have hs' := hs
    simp only [okD, Bool.and_eq_true, decide_eq_true_eq] at hs'
    have hle : ltB s.reads.length k = false := ltB_not.2 (by omega)
    have hw : IntKind.i64.wrap ((k : Int) + 1) = ((k + 1 : Nat) : Int) := by have := hs'.1.1; unfold big at this; rw [i64_in _ (by omega)]; rfl
    have hot : okT t = true := by
      rcases Nat.lt_or_ge k s.reads.length with h | h
      · rw [List.getElem?_append_left h] at hx; exact List.all_eq_true.1 hs'.1.2 t (List.mem_of_getElem? hx)
      · rw [List.getElem?_append_right h, show k - s.reads.length = 0 by omega] at hx
        simp at hx; subst hx; exact hs'.2
    have hpl : t.path.length ≤ big := by have : t.path.length < 4294967281 := by simpa [okT] using hot
                                         unfold big; omega
    have cP : ∀ st h, opV G st h (.call Fn.licitref16_Path) (some [.str t.path]) = some (.bool (pathOK t.path), h) := fun st h => op_call hP rfl (F1_use (A := eStr) (R := eBool) (x := t.path) (if_pos hpl)) (.inl rfl)
    have cT : ∀ st h, opV G st h (.call Fn.licitref17_touched) (some [.sl (doneRows xs), .int .i64 i, .str t.path]) = some (.tup [.str ((touchedL t.path (xs.take i)).getD []), .bool (touchedL t.path (xs.take i)).isSome], h) := fun st h => op_call hT rfl (F3_use (A := eSl rDone) (B := eNat) (C := eStr) (R := eTup2 eStr eBool) (x := xs) (y := i) (z := t.path) (r := pairO (touchedL t.path (xs.take i))) (if_pos ⟨hok, hi⟩)) (.inl rfl)
    have cA : ∀ st h, opV G st h (.call Fn.licitref17_among) (some [.sl (touchRows s.reads), .int .i64 k, .str t.path]) = some (.int .i64 (findP (fun u => u.path == t.path) 0 (s.reads.take k)), h) := fun st h => op_call hA rfl (F3_use (A := eSl rTouch) (B := eNat) (C := eStr) (R := eInt) (x := s.reads) (y := k) (z := t.path) (if_pos ⟨by omega, hs'.1.1⟩)) (.inl rfl)
    simp only [refFiles] at hr
    obtain ⟨o, ho⟩ : ∃ o, touchedL t.path (xs.take i) = o := ⟨_, rfl⟩
    simp only [ho] at cT hr
    obtain ⟨f, hf⟩ : ∃ f, findP (fun u : Touch => u.path == t.path) 0 (s.reads.take k) = f := ⟨_, rfl⟩
    simp only [hf] at cA hr
    have hcase : (ltB k s.reads.length = true ∧ (∀ h, iadrAV 2 h (.sl (touchRows s.reads)) (.int .i64 (k : Nat)) = some (.fptr t.row 0))) ∨ (ltB k s.reads.length = false ∧ t = s.wrote) := by
      rcases Nat.lt_or_ge k s.reads.length with h | h
      · rw [List.getElem?_append_left h] at hx
        exact .inl ⟨ltB_iff.2 (by omega), fun h => iadr_sl (touchRows_get hx) rfl⟩
      · rw [List.getElem?_append_right h, show k - s.reads.length = 0 by omega] at hx
        simp at hx; exact .inr ⟨ltB_not.2 (by omega), hx.symm⟩
    have ih := fun h => step_loop G hP hT hA xs i s hok hi hs r rest (k + 1) hxd (by omega) h
    refine head_go (Mc.licitref17_step_L0.eq_1) ?_
    rcases hcase with ⟨c0, hia⟩ | ⟨c0, hia⟩
    · simp only [Touch.row] at hia
      cases c1 : pathOK t.path with
      | false =>
        simp only [c1, Bool.false_eq_true, if_false] at hr; subst hr
        simp [trunc, Done.row, hle, c0, hia, cP, c1, Rs.licitref17_step]
      | true =>
        simp only [c1, if_true] at hr
        by_cases c2 : t.dig.length = 32
        · have e2 : eqB (t.dig.length : Int) 32 = true := eqB_iff.2 (by omega)
          simp only [c2, if_true] at hr
          cases c3 : (!ltB f 0 || eqB k s.reads.length && o.isSome) with
          | true =>
            simp only [c3, if_true] at hr; subst hr
            cases d1 : ltB f 0 with
            | false => simp [trunc, Done.row, hle, c0, hia, cP, c1, e2, cT, cA, d1, Rs.licitref17_step]
            | true =>
              simp [d1] at c3
              simp [trunc, Done.row, hle, c0, hia, cP, c1, e2, cT, cA, d1, c3.1, c3.2, Rs.licitref17_step]
          | false =>
            simp only [c3, Bool.false_eq_true, if_false] at hr
            simp at c3
            have d2 : (On (eqB k s.reads.length) → ¬ On o.isSome) := by
              intro h1 h2; have := c3.2 h1; simp [this, On] at h2
            cases o with
            | none =>
              simp at hr
              have ih := ih hr
              cases d3 : eqB k s.reads.length <;>
              · simp [trunc, Done.row, hle, c0, hia, cP, c1, e2, cT, cA, c3.1, d3, hw]
                refine head_of ?_
                simpa [trunc, Done.row] using ih
            | some d =>
              have d3 : eqB k s.reads.length = false := by simpa using c3.2
              by_cases c4 : d = t.dig
              · simp [c4] at hr
                have ih := ih hr
                simp [trunc, Done.row, hle, c0, hia, cP, c1, e2, cT, cA, c3.1, d3, c4, hw]
                refine head_of ?_
                simpa [trunc, Done.row] using ih
              · simp [c4] at hr; subst hr
                have c4' : (d == t.dig) = false := by simp [c4]
                simp [trunc, Done.row, hle, c0, hia, cP, c1, e2, cT, cA, c3.1, d3, c4', Rs.licitref17_step]
        · have e2 : eqB (t.dig.length : Int) 32 = false := eqB_not.2 (by omega)
          simp only [c2, if_false] at hr; subst hr
          simp [trunc, Done.row, hle, c0, hia, cP, c1, e2, Rs.licitref17_step]
    · subst hia
      cases c1 : pathOK s.wrote.path with
      | false =>
        simp only [c1, Bool.false_eq_true, if_false] at hr; subst hr
        simp [trunc, Done.row, hle, c0, cP, c1, Rs.licitref17_step]
      | true =>
        simp only [c1, if_true] at hr
        by_cases c2 : s.wrote.dig.length = 32
        · have e2 : eqB (s.wrote.dig.length : Int) 32 = true := eqB_iff.2 (by omega)
          simp only [c2, if_true] at hr
          cases c3 : (!ltB f 0 || eqB k s.reads.length && o.isSome) with
          | true =>
            simp only [c3, if_true] at hr; subst hr
            cases d1 : ltB f 0 with
            | false => simp [trunc, Done.row, hle, c0, cP, c1, e2, cT, cA, d1, Rs.licitref17_step]
            | true =>
              simp [d1] at c3
              simp [trunc, Done.row, hle, c0, cP, c1, e2, cT, cA, d1, c3.1, c3.2, Rs.licitref17_step]
          | false =>
            simp only [c3, Bool.false_eq_true, if_false] at hr
            simp at c3
            cases o with
            | none =>
              simp at hr
              have ih := ih hr
              cases d3 : eqB k s.reads.length <;>
              · simp [trunc, Done.row, hle, c0, cP, c1, e2, cT, cA, c3.1, d3, hw]
                refine head_of ?_
                simpa [trunc, Done.row] using ih
            | some d =>
              have d3 : eqB k s.reads.length = false := by simpa using c3.2
              by_cases c4 : d = s.wrote.dig
              · simp [c4] at hr
                have ih := ih hr
                simp [trunc, Done.row, hle, c0, cP, c1, e2, cT, cA, c3.1, d3, c4, hw]
                refine head_of ?_
                simpa [trunc, Done.row] using ih
              · simp [c4] at hr; subst hr
                have c4' : (d == s.wrote.dig) = false := by simp [c4]
                simp [trunc, Done.row, hle, c0, cP, c1, e2, cT, cA, c3.1, d3, c4', Rs.licitref17_step]
        · have e2 : eqB (s.wrote.dig.length : Int) 32 = false := eqB_not.2 (by omega)
          simp only [c2, if_false] at hr; subst hr
          simp [trunc, Done.row, hle, c0, cP, c1, e2, Rs.licitref17_step]

attribute [local congr] ite_congr in
theorem step_ok (G : Gam) (hP : G Fn.licitref16_Path = some (.pure F_refPath)) (hT : G Fn.licitref17_touched = some (.pure F_rtouched)) (hA : G Fn.licitref17_among = some (.pure F_among)) : ∀ args r, F_step args = some r → wpM G Mc.licitref17_step (pureQ Rs.licitref17_step r) [] (frInit Ks.licitref17_step args) [] := F2_ok fun xs i r h => by
  split at h
  · rename_i hok
    simp only [Option.map_eq_some_iff] at h
    obtain ⟨s, hx, hr⟩ := h
    have hok' := hok
    simp only [okR, Bool.and_eq_true, decide_eq_true_eq] at hok'
    have hil : i < xs.length := (List.getElem?_eq_some_iff.1 hx).1
    have hs : okD s = true := List.all_eq_true.1 hok'.2 s (List.mem_of_getElem? hx)
    have hia := fun h => iadr_sl (h := h) (k := .i64) (doneRows_get hx) s.row_len
    have lp := fun r hr => step_loop G hP hT hA xs i s hok (by omega) hs r (s.reads ++ [s.wrote]) 0 rfl (by omega) hr
    simp [Done.row] at hia lp
    rw [wpM_go, eSl_done]
    have facts : (ltB 0 i = false ∧ (if i = 0 then none else xs[i - 1]?) = none) ∨ ∃ j p, ltB 0 i = true ∧ IntKind.i64.wrap ((i : Int) - 1) = (j : Nat) ∧ (∀ h, iadrAV 6 h (.sl (doneRows xs)) (.int .i64 (j : Nat)) = some (.fptr p.row 0)) ∧ (if i = 0 then none else xs[i - 1]?) = some p := by
      cases i with
      | zero => left; exact ⟨rfl, rfl⟩
      | succ j =>
        right
        refine ⟨j, xs[j]'(by omega), ltB_iff.2 (by omega), ?_, fun h => iadr_sl (doneRows_get (by simp)) rfl, by simp⟩
        unfold big at hok'; rw [i64_in _ (by omega)]; omega
    unfold stepE at hr
    cases c1 : rangeBad s with
    | true =>
      simp only [c1, if_true] at hr; subst hr
      unfold rangeBad at c1
      simp +contextual [Mc.licitref17_step, frInit, Ks.licitref17_step, hia]
      rw [c1]
      simp [Rs.licitref17_step]
    | false =>
      simp only [c1, Bool.false_eq_true, if_false] at hr
      unfold rangeBad at c1
      rcases facts with ⟨f1, f2⟩ | ⟨j, p, f1, f2, f3, f4⟩
      · rw [f2] at hr
        simp only [Option.any_none, Bool.false_eq_true, if_false] at hr
        cases c2 : countBad s with
        | true =>
          simp only [c2, if_true] at hr; subst hr
          unfold countBad at c2
          simp +contextual [Mc.licitref17_step, frInit, Ks.licitref17_step, hia]
          rw [c1]
          simp +contextual [f1]
          rw [c2]
          simp [Rs.licitref17_step]
        | false =>
          simp only [c2, Bool.false_eq_true, if_false] at hr
          unfold countBad at c2
          simp +contextual [Mc.licitref17_step, frInit, Ks.licitref17_step, hia]
          rw [c1]
          simp +contextual [f1]
          rw [c2]
          simp
          rw [← hr]; exact lp
      · rw [f4] at hr
        simp only [Option.any_some] at hr
        simp only [Done.row] at f3
        cases c0 : orderBad p s with
        | true =>
          simp only [c0, if_true] at hr; subst hr
          unfold orderBad at c0
          simp +contextual [Mc.licitref17_step, frInit, Ks.licitref17_step, hia]
          rw [c1]
          simp +contextual [f1, f2, f3]
          rw [c0]
          simp [Rs.licitref17_step]
        | false =>
          simp only [c0, Bool.false_eq_true, if_false] at hr
          unfold orderBad at c0
          cases c2 : countBad s with
          | true =>
            simp only [c2, if_true] at hr; subst hr
            unfold countBad at c2
            simp +contextual [Mc.licitref17_step, frInit, Ks.licitref17_step, hia]
            rw [c1]
            simp +contextual [f1, f2, f3]
            rw [c0]
            simp +contextual
            rw [c2]
            simp [Rs.licitref17_step]
          | false =>
            simp only [c2, Bool.false_eq_true, if_false] at hr
            unfold countBad at c2
            simp +contextual [Mc.licitref17_step, frInit, Ks.licitref17_step, hia]
            rw [c1]
            simp +contextual [f1, f2, f3]
            rw [c0]
            simp +contextual
            rw [c2]
            simp
            rw [← hr]; exact lp
  · cases h

/-! ### Check -/
def refFrom (xs : List Done) (i : Nat) : List Done → Int
  | [] => 0
  | s :: rest => if stepE xs i s = 0 then refFrom xs (i + 1) rest else stepE xs i s
def refCheckE (xs : List Done) : Int := if 1024 < xs.length then 10 else refFrom xs 0 xs
def F_refCheck : List AV → Option AV := F1 (eSl rDone) eInt fun r => if okR r then some (refCheckE r) else none
theorem refCheck_loop (G : Gam) (hS : G Fn.licitref17_step = some (.pure F_step)) (xs : List Done) (hok : okR xs = true) (r : Int) : ∀ (rest : List Done) (i : Nat), xs.drop i = rest → refFrom xs i rest = r →
    headM G [4] Mc.licitref17_Check_L0 0 [.blk 0, .seq (.seq (.reg [⟨none, some 2, true, .mv, [.c (.int .i64 0)]⟩]) .ret)] (pureQ Rs.licitref17_Check (.int .i64 r))
    [(0, .sl (doneRows xs)), (2, .int .i64 0), (3, .int .i64 i), (4, .junk)] []
  | [], i, hd, hr => by
    have hi := drop_nil hd
    have hi' : ltB i xs.length = false := ltB_not.2 (by omega)
    simp only [refFrom] at hr; subst hr
    refine head_go (Mc.licitref17_Check_L0.eq_1) ?_
    simp [trunc, hi', Rs.licitref17_Check]
  | s :: rest, i, hd, hr => by
    obtain ⟨hi, hx, hxd⟩ := drop_cons hd
    have hok' := hok
    simp only [okR, Bool.and_eq_true, decide_eq_true_eq] at hok'
    have hi' : ltB i xs.length = true := ltB_iff.2 (by omega)
    have hw := wrap1 (i := i) (by omega)
    have hc : ∀ st h, opV G st h (.call Fn.licitref17_step) (some [.sl (doneRows xs), .int .i64 i]) = some (.int .i64 (stepE xs i s), h) := fun st h => op_call hS rfl (F2_use (A := eSl rDone) (B := eNat) (R := eInt) (x := xs) (y := i) (by simp [hok, hx])) (.inl rfl)
    simp only [refFrom] at hr
    refine head_go (Mc.licitref17_Check_L0.eq_1) ?_
    by_cases c : stepE xs i s = 0
    · simp only [c, if_true] at hr
      have ih := refCheck_loop G hS xs hok r rest (i + 1) hxd hr
      simp [trunc, hi', hc, c, hw]
      refine head_of ?_
      simpa [trunc] using ih
    · have e : eqB (stepE xs i s) 0 = false := eqB_not.2 c
      simp only [c, if_false] at hr; subst hr
      simp [trunc, hi', hc, e, Rs.licitref17_Check]
theorem refCheck_ok (G : Gam) (hS : G Fn.licitref17_step = some (.pure F_step)) : ∀ args r, F_refCheck args = some r → wpM G Mc.licitref17_Check (pureQ Rs.licitref17_Check r) [] (frInit Ks.licitref17_Check args) [] := F1_ok fun xs r h => by
  split at h
  · rename_i ho
    injection h with h; subst h
    rw [wpM_go, eSl_done]
    cases c1 : ltB 1024 xs.length with
    | true =>
      have := ltB_iff.1 c1
      have e : 1024 < xs.length := by omega
      simp [Mc.licitref17_Check, frInit, Ks.licitref17_Check, Rs.licitref17_Check, c1, refCheckE, e]
    | false =>
      have := ltB_not.1 c1
      have e : ¬ 1024 < xs.length := by omega
      have ih := refCheck_loop G hS xs ho _ xs 0 rfl rfl
      simpa [Mc.licitref17_Check, frInit, Ks.licitref17_Check, c1, refCheckE, e] using ih
  · cases h

def refWriterE (xs : List Done) (p : Bs) : Int := if refCheckE xs = 0 then wroteE xs p else -1
def F_refWriter : List AV → Option AV := F2 (eSl rDone) eStr eInt fun xs p => if okR xs then some (refWriterE xs p) else none
theorem refWriter_ok (G : Gam) (hC : G Fn.licitref17_Check = some (.pure F_refCheck)) (hW : G Fn.licitref17_wrote = some (.pure F_wrote)) : ∀ args r, F_refWriter args = some r → wpM G Mc.licitref17_Writer (pureQ Rs.licitref17_Writer r) [] (frInit Ks.licitref17_Writer args) [] := F2_ok fun xs p r h => by
  split at h
  · rename_i ho
    injection h with h; subst h
    rw [wpM_go, eSl_done]
    have hb : xs.length ≤ big := by simp only [okR, Bool.and_eq_true, decide_eq_true_eq] at ho; exact ho.1
    have hc : ∀ st h, opV G st h (.call Fn.licitref17_Check) (some [.sl (doneRows xs)]) = some (.int .i64 (refCheckE xs), h) := fun st h => op_call hC rfl (F1_use (A := eSl rDone) (R := eInt) (x := xs) (if_pos ho)) (.inl rfl)
    have hw : ∀ st h, opV G st h (.call Fn.licitref17_wrote) (some [.sl (doneRows xs), .str p]) = some (.int .i64 (wroteE xs p), h) := fun st h => op_call hW rfl (F2_use (A := eSl rDone) (B := eStr) (R := eInt) (x := xs) (y := p) (if_pos hb)) (.inl rfl)
    by_cases c : refCheckE xs = 0
    · simp [Mc.licitref17_Writer, frInit, Ks.licitref17_Writer, hc, c, hw, refWriterE, Rs.licitref17_Writer]
    · have e : eqB (refCheckE xs) 0 = false := eqB_not.2 c
      simp [Mc.licitref17_Writer, frInit, Ks.licitref17_Writer, hc, e, c, refWriterE, Rs.licitref17_Writer]
  · cases h

end Go.Proofs.YtmjdgpiofhildaaDoor
