/- Touched files, steps, records: as rows. Equal steps; where two records part. Where two records part. -/
import Derived.Test.YtmjdgpiofhildaaGreatDoorRmA
namespace Go.Proofs.YtmjdgpiofhildaaGreatDoor
open Go.RowKit Go.IntWalk

structure Touch where
  path : Bs
  dig : Bs
  deriving DecidableEq, Inhabited

structure Done where
  pkg : Int
  line : Int
  kind : Int
  reads : List Touch
  wrote : Touch
  deriving DecidableEq, Inhabited

def Touch.row (t : Touch) : List AV := [.str t.path, .str t.dig]
def decTouch : List AV → Option Touch
  | [.str p, .str d] => some ⟨p, d⟩
  | _ => none
theorem decTouch_of {row : List AV} {t : Touch} (h : decTouch row = some t) : row = t.row := by
  unfold decTouch at h; split at h
  · injection h with h; subst h; rfl
  · cases h

/-- All rows, or none. -/
def decAll {α : Type} (dec : List AV → Option α) : List (List AV) → Option (List α)
  | [] => some []
  | r :: rs => match dec r, decAll dec rs with
    | some x, some xs => some (x :: xs)
    | _, _ => none
theorem decAll_of {α : Type} {dec : List AV → Option α} {enc : α → List AV} (h1 : ∀ r x, dec r = some x → r = enc x) : ∀ {rows : List (List AV)} {xs : List α}, decAll dec rows = some xs → rows = xs.map enc
  | [], xs, h => by simp [decAll] at h; subst h; rfl
  | r :: rs, xs, h => by
    simp only [decAll] at h
    split at h
    · rename_i x xs' h2 h3
      injection h with h; subst h
      rw [h1 r x h2, decAll_of h1 h3]; rfl
    · cases h
theorem decAll_enc {α : Type} {dec : List AV → Option α} {enc : α → List AV} (h1 : ∀ x, dec (enc x) = some x) : ∀ (xs : List α), decAll dec (xs.map enc) = some xs
  | [] => rfl
  | x :: xs => by simp [decAll, h1, decAll_enc h1 xs]

@[simp] theorem decTouch_row (t : Touch) : decTouch t.row = some t := rfl
def touchRows (ts : List Touch) : List (List AV) := ts.map Touch.row
@[simp] theorem touchRows_len {ts : List Touch} : (touchRows ts).length = ts.length := by simp [touchRows]
theorem touchRows_get {ts : List Touch} {i : Nat} {t : Touch} (h : ts[i]? = some t) : (touchRows ts)[i]? = some [.str t.path, .str t.dig] := by simp [touchRows, h, Touch.row]
@[simp] theorem dec_touchRows (ts : List Touch) : decAll decTouch (touchRows ts) = some ts := decAll_enc decTouch_row ts

def Done.row (d : Done) : List AV := [.int .i64 d.pkg, .int .i64 d.line, .int .i64 d.kind, .sl (touchRows d.reads), .str d.wrote.path, .str d.wrote.dig]
def decDone : List AV → Option Done
  | [.int .i64 p, .int .i64 l, .int .i64 k, .sl rows, .str wp, .str wd] => (decAll decTouch rows).map fun ts => ⟨p, l, k, ts, ⟨wp, wd⟩⟩
  | _ => none
theorem decDone_of {row : List AV} {d : Done} (h : decDone row = some d) : row = d.row := by
  unfold decDone at h; split at h
  · simp only [Option.map_eq_some_iff] at h
    obtain ⟨ts, h1, rfl⟩ := h
    rw [decAll_of (enc := Touch.row) (fun r x => decTouch_of) h1]; rfl
  · cases h
@[simp] theorem decDone_row (d : Done) : decDone d.row = some d := by simp [decDone, Done.row]
def doneRows (ds : List Done) : List (List AV) := ds.map Done.row
@[simp] theorem doneRows_len {ts : List Done} : (doneRows ts).length = ts.length := by simp [doneRows]
theorem doneRows_get {ts : List Done} {i : Nat} {t : Done} (h : ts[i]? = some t) : (doneRows ts)[i]? = some t.row := by simp [doneRows, h]
@[simp] theorem dec_doneRows (ts : List Done) : decAll decDone (doneRows ts) = some ts := decAll_enc decDone_row ts


def rTouch : REnc Touch := ⟨Touch.row, decTouch, decTouch_row, fun _ _ => decTouch_of⟩
def rDone : REnc Done := ⟨Done.row, decDone, decDone_row, fun _ _ => decDone_of⟩
theorem eSl_touch (xs : List Touch) : (eSl rTouch).enc xs = .sl (touchRows xs) := rfl
theorem eSl_done (xs : List Done) : (eSl rDone).enc xs = .sl (doneRows xs) := rfl
theorem eAgg_touch (x : Touch) : (eAgg rTouch).enc x = .agg x.row := rfl
theorem eAgg_done (x : Done) : (eAgg rDone).enc x = .agg x.row := rfl

/-- Small enough to be spoken of. -/
def okT (t : Touch) : Bool := decide (t.path.length < 4294967281)
def okD (d : Done) : Bool := decide (d.reads.length ≤ big) && d.reads.all okT && okT d.wrote
def okR (r : List Done) : Bool := decide (r.length ≤ big) && r.all okD

/-! ### Equal touched files, equal steps -/
def F_EqualT : List AV → Option AV
  | [.sl a, .sl b] => match decAll decTouch a, decAll decTouch b with
    | some x, some y => if x.length ≤ big then some (.bool (decide (x = y))) else none
    | _, _ => none
  | _ => none

theorem eqT {t u : Touch} : eqCells [.s, .s] [.str t.path, .str t.dig] [.str u.path, .str u.dig] = some (decide (t = u)) := by
  obtain ⟨p, d⟩ := t
  obtain ⟨q, e⟩ := u
  by_cases h1 : p = q
  · by_cases h2 : d = e
    · simp [eqCells, h1, h2]
    · simp [eqCells, h1, h2]
  · simp [eqCells, h1]

theorem equalT_loop (G : Gam) (r : AV) (xs ys : List Touch) (hl : xs.length = ys.length) (hb : xs.length ≤ big) : ∀ (rest : List Touch) (i : Nat), xs.drop i = rest → i + rest.length = xs.length → r = .bool (decide (rest = ys.drop i)) →
    headM G [5] Mc.slices_Equal___api_Touch_api_Touch__L0 0 [.blk 0, .seq (.seq (.reg [⟨none, some 4, true, .mv, [.c (.bool true)]⟩]) .ret)] (pureQ Rs.slices_Equal___api_Touch_api_Touch_ r)
    [(0, .sl (touchRows xs)), (1, .sl (touchRows ys)), (4, .bool false), (5, .junk), (12, .int .i64 xs.length), (13, .int .i64 i)] []
  | [], i, hd, hn, hr => by
    refine head_go (Mc.slices_Equal___api_Touch_api_Touch__L0.eq_1) ?_
    simp at hn
    have : ys.drop i = [] := by rw [List.drop_eq_nil_iff]; omega
    rw [this] at hr
    simp at hr
    subst hr
    simp [junkAll, trunc, lowFr, low, lowH, lowB, binAV, intBin, ltB, eqB, hn, pureQ, Rs.slices_Equal___api_Touch_api_Touch_, resAV, resL, resOne, view]
  | x :: rest, i, hd, hn, hr => by
    refine head_go (Mc.slices_Equal___api_Touch_api_Touch__L0.eq_1) ?_
    simp at hn
    have hi : (i : Int) < xs.length := by omega
    have hx : xs[i]? = some x := by have := congrArg (·[0]?) hd; simpa using this
    have hyl : i < ys.length := by omega
    obtain ⟨y, hy, hyd⟩ := drop_head hyl
    have hxd : xs.drop (i + 1) = rest := by rw [← List.drop_drop, hd]; rfl
    have hw : IntKind.i64.wrap ((i : Int) + 1) = ((i + 1 : Nat) : Int) := by unfold big at hb; rw [i64_in _ (by omega)]; rfl
    simp [junkAll, trunc, lowFr, low, lowH, lowB, binAV, intBin, ltB, eqB, hi, iadr_sl (touchRows_get hx), iadr_sl (touchRows_get hy), cut, mkVal, eqT]
    by_cases he : x = y
    · simp [he, binAV, intBin, ltB, eqB, hw]
      refine head_of ?_
      have ih := equalT_loop G r xs ys hl hb rest (i + 1) hxd (by omega) (by rw [hr]; congr 2; rw [hyd, he]; simp)
      simpa [junkAll, trunc, lowFr, low, lowH, lowB] using ih
    · rw [hyd] at hr
      simp [he] at hr
      subst hr
      simp [he, pureQ, Rs.slices_Equal___api_Touch_api_Touch_, resAV, resL, resOne, view]

theorem equalT_ok (G : Gam) (args : List AV) (r : AV) (h : F_EqualT args = some r) : wpM G Mc.slices_Equal___api_Touch_api_Touch_ (pureQ Rs.slices_Equal___api_Touch_api_Touch_ r) [] (frInit Ks.slices_Equal___api_Touch_api_Touch_ args) [] := by
  unfold F_EqualT at h
  split at h
  · rename_i a b
    split at h
    · rename_i xs ys h1 h2
      have := decAll_of (enc := Touch.row) (fun r x => decTouch_of) h1; subst this
      have := decAll_of (enc := Touch.row) (fun r x => decTouch_of) h2; subst this
      split at h
      · rename_i hb
        injection h with h
        rw [wpM_go]
        by_cases hl : xs.length = ys.length
        · have ih := equalT_loop G r xs ys hl hb xs 0 rfl (by simp) (by simp [← h])
          simpa [Mc.slices_Equal___api_Touch_api_Touch_, frInit, Ks.slices_Equal___api_Touch_api_Touch_, lenAV, binAV, intBin, ltB, eqB, hl, touchRows] using ih
        · have : decide (xs = ys) = false := by simp; intro e; exact hl (by rw [e])
          rw [this] at h
          have hbe : ((xs.length : Int) != ys.length) = true := by simp [bne]; omega
          simp [hbe, Mc.slices_Equal___api_Touch_api_Touch_, frInit, Ks.slices_Equal___api_Touch_api_Touch_, lenAV, binAV, intBin, ltB, eqB, pureQ, Rs.slices_Equal___api_Touch_api_Touch_, resAV, resL, resOne, view, ← h]
      · cases h
    · cases h
  · cases h

end Go.Proofs.YtmjdgpiofhildaaGreatDoor

namespace Go.Proofs.YtmjdgpiofhildaaGreatDoor
open Go.RowKit Go.IntWalk

def F_equal : List AV → Option AV
  | [.agg a, .agg b] => match decDone a, decDone b with
    | some x, some y => if x.reads.length ≤ big then some (.bool (decide (x = y))) else none
    | _, _ => none
  | _ => none

attribute [local congr] ite_congr in
theorem equal_ok (G : Gam) (hG : G Fn.slices_Equal___api_Touch_api_Touch_ = some (.pure F_EqualT)) (args : List AV) (r : AV) (h : F_equal args = some r) : wpM G Mc.record_equal (pureQ Rs.record_equal r) [] (frInit Ks.record_equal args) [] := by
  unfold F_equal at h
  split at h
  · rename_i a b
    split at h
    · rename_i x y h1 h2
      have := decDone_of h1; subst this
      have := decDone_of h2; subst this
      split at h
      · rename_i hb
        injection h with h
        rw [wpM_go]
        have hc : ∀ s2 h, opV G s2 h (.call Fn.slices_Equal___api_Touch_api_Touch_) (some [.sl (touchRows x.reads), .sl (touchRows y.reads)]) = some (.bool (decide (x.reads = y.reads)), h) := fun s2 h => op_call hG rfl (by simp [F_EqualT, hb]) (.inl rfl)
        obtain ⟨p, l, k, rs, wt⟩ := x
        obtain ⟨p', l', k', rs', wt'⟩ := y
        subst h
        have hd : decide (Done.mk p l k rs wt = Done.mk p' l' k' rs' wt') = (eqB p p' && eqB l l' && eqB k k' && decide (wt = wt') && decide (rs = rs')) := by
          simp only [Done.mk.injEq, eqB, Bool.decide_and, Bool.and_assoc]
          cases decide (p = p') <;> cases decide (l = l') <;> cases decide (k = k') <;> cases decide (wt = wt') <;> cases decide (rs = rs') <;> rfl
        rw [hd]
        simp +contextual [Mc.record_equal, frInit, Ks.record_equal, Done.row, cut, mkVal, eqT, hc, Rs.record_equal]
      · cases h
    · cases h
  · cases h

theorem refEqual_loop (G : Gam) (r : AV) (x y : Done) (hl : x.reads.length = y.reads.length) (hb : x.reads.length ≤ big) : ∀ (rest : List Touch) (i : Nat), x.reads.drop i = rest → i + rest.length = x.reads.length → r = .bool (decide (rest = y.reads.drop i)) →
    headM G [] Mc.licitref17_Equal_L0 2 [.blk 0, .seq (.seq (.reg [⟨none, some 4, true, .mv, [.c (.bool true)]⟩]) .ret)] (pureQ Rs.licitref17_Equal r)
    [(0, .agg x.row), (1, .agg y.row), (2, .ptr 0 0), (3, .ptr 1 0), (4, .bool false), (5, .int .i64 i)] [.cells x.row, .cells y.row]
  | [], i, hd, hn, hr => by
    refine head_go (Mc.licitref17_Equal_L0.eq_1) ?_
    simp at hn
    have : y.reads.drop i = [] := by rw [List.drop_eq_nil_iff]; omega
    rw [this] at hr
    simp at hr
    subst hr
    simp [junkAll, trunc, lowFr, low, lowL, lowH, lowB, Done.row, loadAV, cut, mkVal, lenAV, binAV, intBin, ltB, eqB, hn, pureQ, Rs.licitref17_Equal, resAV, resL, resOne, view]
  | t :: rest, i, hd, hn, hr => by
    refine head_go (Mc.licitref17_Equal_L0.eq_1) ?_
    simp at hn
    have hi : (i : Int) < x.reads.length := by omega
    have hx : x.reads[i]? = some t := by have := congrArg (·[0]?) hd; simpa using this
    have hyl : i < y.reads.length := by omega
    obtain ⟨u, hy, hyd⟩ := drop_head hyl
    have hxd : x.reads.drop (i + 1) = rest := by rw [← List.drop_drop, hd]; rfl
    have hw : IntKind.i64.wrap ((i : Int) + 1) = ((i + 1 : Nat) : Int) := by unfold big at hb; rw [i64_in _ (by omega)]; rfl
    simp [junkAll, trunc, lowFr, low, lowL, lowH, lowB, Done.row, loadAV, cut, mkVal, lenAV, binAV, intBin, ltB, eqB, hi, iadr_sl (touchRows_get hx), iadr_sl (touchRows_get hy), eqT]
    by_cases he : t = u
    · simp [he, binAV, intBin, ltB, eqB, hw]
      have ih := refEqual_loop G r x y hl hb rest (i + 1) hxd (by omega) (by rw [hr]; congr 2; rw [hyd, he]; simp)
      refine head_of ?_
      simpa [junkAll, trunc, lowFr, low, lowL, lowH, lowB, Done.row] using ih
    · rw [hyd] at hr
      simp [he] at hr
      subst hr
      simp [he, pureQ, Rs.licitref17_Equal, resAV, resL, resOne, view]

theorem refEqual_ok (G : Gam) (args : List AV) (r : AV) (h : F_equal args = some r) : wpM G Mc.licitref17_Equal (pureQ Rs.licitref17_Equal r) [] (frInit Ks.licitref17_Equal args) [] := by
  unfold F_equal at h
  split at h
  · rename_i a b
    split at h
    · rename_i x y h1 h2
      have := decDone_of h1; subst this
      have := decDone_of h2; subst this
      split at h
      · rename_i hb
        injection h with h
        rw [wpM_go]
        have hloop := refEqual_loop G r x y
        obtain ⟨p, l, k, rs, wt⟩ := x
        obtain ⟨p', l', k', rs', wt'⟩ := y
        have hd : decide (Done.mk p l k rs wt = Done.mk p' l' k' rs' wt') = (eqB p p' && eqB l l' && eqB k k' && decide (wt = wt') && decide (rs = rs')) := by
          simp only [Done.mk.injEq, eqB, Bool.decide_and, Bool.and_assoc]
          cases decide (p = p') <;> cases decide (l = l') <;> cases decide (k = k') <;> cases decide (wt = wt') <;> cases decide (rs = rs') <;> rfl
        rw [hd] at h
        have hlen : rs.length ≠ rs'.length → decide (rs = rs') = false := fun e => by simp; intro e2; exact e (by rw [e2])
        cases e1 : eqB p p' with
        | false => subst h; simp [Mc.licitref17_Equal, frInit, Ks.licitref17_Equal, Done.row, cut, mkVal, eqT, e1, Rs.licitref17_Equal]
        | true =>
          cases e2 : eqB l l' with
          | false => subst h; simp [Mc.licitref17_Equal, frInit, Ks.licitref17_Equal, Done.row, cut, mkVal, eqT, e1, e2, Rs.licitref17_Equal]
          | true =>
            cases e3 : eqB k k' with
            | false => subst h; simp [Mc.licitref17_Equal, frInit, Ks.licitref17_Equal, Done.row, cut, mkVal, eqT, e1, e2, e3, Rs.licitref17_Equal]
            | true =>
              by_cases e4 : wt = wt'
              · cases e5 : eqB rs.length rs'.length with
                | false => subst h; simp [Mc.licitref17_Equal, frInit, Ks.licitref17_Equal, Done.row, cut, mkVal, eqT, e1, e2, e3, e4, e5, hlen (fun e => by rw [e] at e5; simp at e5), Rs.licitref17_Equal]
                | true =>
                  have e6 : rs.length = rs'.length := by have := eqB_iff.1 e5; omega
                  have p1 := eqB_iff.1 e1; have p2 := eqB_iff.1 e2; have p3 := eqB_iff.1 e3
                  subst p1 p2 p3 e4
                  have ih := hloop e6 hb rs 0 rfl (by simp) (by rw [← h]; simp)
                  simpa [Mc.licitref17_Equal, frInit, Ks.licitref17_Equal, Done.row, cut, mkVal, eqT, e5] using ih
              · subst h; simp [Mc.licitref17_Equal, frInit, Ks.licitref17_Equal, Done.row, cut, mkVal, eqT, e1, e2, e3, e4, Rs.licitref17_Equal]
      · cases h
    · cases h
  · cases h

end Go.Proofs.YtmjdgpiofhildaaGreatDoor

namespace Go.Proofs.YtmjdgpiofhildaaGreatDoor
open Go.RowKit Go.IntWalk

/-- The first place, from i on, at which the lists differ; -1: none. -/
def divFrom (i : Nat) : List Done → List Done → Int
  | [], [] => -1
  | x :: xs, y :: ys => if x = y then divFrom (i + 1) xs ys else i
  | _, _ => i

def okReads (xs : List Done) : Bool := xs.all fun d => decide (d.reads.length ≤ big)

def F_Diverge : List AV → Option AV
  | [.sl a, .sl b] => match decAll decDone a, decAll decDone b with
    | some x, some y => if x.length ≤ big ∧ y.length ≤ big ∧ okReads x then some (.int .i64 (divFrom 0 x y)) else none
    | _, _ => none
  | _ => none

theorem Done.row_len (d : Done) : d.row.length = 6 := rfl

@[simp] theorem op_min {G : Gam} {s : Bool} {h : Heap} {x y : AV} : opV G s h .min (some [x, y]) = (minAV x y).map fun v => (v, h) := by rw [opV_quiet rfl]; rfl

theorem refDiv_loop (G : Gam) (hG : G Fn.licitref17_Equal = some (.pure F_equal)) (r : AV) (xs ys : List Done) (hbx : xs.length ≤ big) (hby : ys.length ≤ big) (hok : okReads xs = true) : ∀ (n : Nat) (i : Nat), xs.length + ys.length - i = n → i ≤ xs.length → i ≤ ys.length → r = .int .i64 (divFrom i (xs.drop i) (ys.drop i)) →
    headM G [] Mc.licitref17_Diverge_L0 0 [.blk 0, .seq (.seq (.reg [⟨none, some 4, true, .mv, [.c (.int .i64 (-1))]⟩]) .ret)] (pureQ Rs.licitref17_Diverge r)
    [(0, .sl (doneRows xs)), (1, .sl (doneRows ys)), (4, .int .i64 0), (5, .int .i64 i)] [] := by
  intro n
  induction n with
  | zero =>
    intro i hn h1 h2 hr
    have e1 : xs = [] := List.length_eq_zero_iff.1 (by omega)
    have e2 : ys = [] := List.length_eq_zero_iff.1 (by omega)
    subst e1 e2
    simp at h1; subst h1
    refine head_go (Mc.licitref17_Diverge_L0.eq_1) ?_
    simp [divFrom] at hr; subst hr
    simp [junkAll, trunc, lowFr, low, lowL, lowH, lowB, lenAV, binAV, intBin, ltB, eqB, doneRows, pureQ, Rs.licitref17_Diverge, resAV, resL, resOne, view]
  | succ n ih =>
    intro i hn h1 h2 hr
    refine head_go (Mc.licitref17_Diverge_L0.eq_1) ?_
    by_cases c1 : i < xs.length
    · obtain ⟨x, hx, hxd⟩ := drop_head c1
      have c1' : (i : Int) < xs.length := by omega
      by_cases c2 : i < ys.length
      · obtain ⟨y, hy, hyd⟩ := drop_head c2
        have c2' : (i : Int) < ys.length := by omega
        have n1 : ¬ (xs.length : Int) ≤ i := by omega
        have n2 : ¬ (ys.length : Int) ≤ i := by omega
        have hrx : x.reads.length ≤ big := by
          have := List.all_eq_true.1 hok x (List.mem_of_getElem? hx); simpa using this
        have hc : ∀ s2 h, opV G s2 h (.call Fn.licitref17_Equal) (some [.agg x.row, .agg y.row]) = some (.bool (decide (x = y)), h) := fun s2 h => op_call hG (us := [.agg x.row, .agg y.row]) (by simp [viewL, view, Done.row]) (by simp [F_equal, hrx]) (.inl rfl)
        have hw : IntKind.i64.wrap ((i : Int) + 1) = ((i + 1 : Nat) : Int) := by unfold big at hbx; rw [i64_in _ (by omega)]; rfl
        have hcut : ∀ d : Done, mkVal true 6 (cut d.row 0 6) = some (.agg d.row) := fun d => rfl
        rw [hxd, hyd] at hr
        by_cases he : x = y
        · simp only [divFrom, if_pos he] at hr
          subst he
          simp [junkAll, trunc, lowFr, low, lowL, lowH, lowB, lenAV, binAV, intBin, ltB, eqB, c1', n1, n2, iadr_sl (doneRows_get hx) x.row_len, iadr_sl (doneRows_get hy) x.row_len, hcut, hc, unAV, hw]
          refine head_of ?_
          have := ih (i + 1) (by omega) (by omega) (by omega) hr
          simpa [junkAll, trunc, lowFr, low, lowL, lowH, lowB] using this
        · simp only [divFrom, if_neg he] at hr
          subst hr
          simp [junkAll, trunc, lowFr, low, lowL, lowH, lowB, lenAV, binAV, intBin, ltB, eqB, c1', n1, n2, iadr_sl (doneRows_get hx) x.row_len, iadr_sl (doneRows_get hy) y.row_len, hcut, hc, he, unAV, pureQ, Rs.licitref17_Diverge, resAV, resL, resOne, view]
      · have n1 : ¬ (xs.length : Int) ≤ i := by omega
        have n2 : (ys.length : Int) ≤ i := by omega
        have hyd : ys.drop i = [] := by rw [List.drop_eq_nil_iff]; omega
        rw [hxd, hyd] at hr
        simp only [divFrom] at hr
        subst hr
        simp [junkAll, trunc, lowFr, low, lowL, lowH, lowB, lenAV, binAV, intBin, ltB, eqB, c1', n1, n2, pureQ, Rs.licitref17_Diverge, resAV, resL, resOne, view]
    · have m1 : ¬ (i : Int) < xs.length := by omega
      have hxd : xs.drop i = [] := by rw [List.drop_eq_nil_iff]; omega
      by_cases c2 : i < ys.length
      · obtain ⟨y, hy, hyd⟩ := drop_head c2
        have c2' : (i : Int) < ys.length := by omega
        have n1 : (xs.length : Int) ≤ i := by omega
        rw [hxd, hyd] at hr
        simp only [divFrom] at hr
        subst hr
        simp [junkAll, trunc, lowFr, low, lowL, lowH, lowB, lenAV, binAV, intBin, ltB, eqB, m1, c2', n1, pureQ, Rs.licitref17_Diverge, resAV, resL, resOne, view]
      · have m2 : ¬ (i : Int) < ys.length := by omega
        have hyd : ys.drop i = [] := by rw [List.drop_eq_nil_iff]; omega
        rw [hxd, hyd] at hr
        simp only [divFrom] at hr
        subst hr
        simp [junkAll, trunc, lowFr, low, lowL, lowH, lowB, lenAV, binAV, intBin, ltB, eqB, m1, m2, pureQ, Rs.licitref17_Diverge, resAV, resL, resOne, view]

theorem refDiverge_ok (G : Gam) (hG : G Fn.licitref17_Equal = some (.pure F_equal)) (args : List AV) (r : AV) (h : F_Diverge args = some r) : wpM G Mc.licitref17_Diverge (pureQ Rs.licitref17_Diverge r) [] (frInit Ks.licitref17_Diverge args) [] := by
  unfold F_Diverge at h
  split at h
  · rename_i a b
    split at h
    · rename_i xs ys h1 h2
      have := decAll_of (enc := Done.row) (fun r x => decDone_of) h1; subst this
      have := decAll_of (enc := Done.row) (fun r x => decDone_of) h2; subst this
      split at h
      · rename_i hb
        injection h with h
        rw [wpM_go]
        have ih := refDiv_loop G hG r xs ys hb.1 hb.2.1 hb.2.2 _ 0 rfl (by omega) (by omega) h.symm
        simpa [Mc.licitref17_Diverge, frInit, Ks.licitref17_Diverge, doneRows] using ih
      · cases h
    · cases h
  · cases h

/-- What 'divFrom' says once the shorter list is over. -/
theorem recDiv_loop (G : Gam) (hG : G Fn.record_equal = some (.pure F_equal)) (r : AV) (xs ys : List Done) (n : Nat) (hn : n = min xs.length ys.length) (hbx : xs.length ≤ big) (hok : okReads xs = true) (K : List MK) (hK : ∀ fr, fr = [(0, .sl (doneRows xs)), (1, .sl (doneRows ys)), (4, .int .i64 0), (5, .int .i64 n), (6, .junk), (12, .int .i64 n), (13, .int .i64 n)] → r = .int .i64 (divFrom n (xs.drop n) (ys.drop n)) → exM G .normal K (pureQ Rs.record_Diverge r) [(14, .bool false)] fr []) : ∀ (m : Nat) (i : Nat), n - i = m → i ≤ n → r = .int .i64 (divFrom i (xs.drop i) (ys.drop i)) →
    headM G [6] Mc.record_Diverge_L0 0 (.blk 0 :: K) (pureQ Rs.record_Diverge r)
    [(0, .sl (doneRows xs)), (1, .sl (doneRows ys)), (4, .int .i64 0), (5, .int .i64 n), (6, .junk), (12, .int .i64 n), (13, .int .i64 i)] [] := by
  intro m
  induction m with
  | zero =>
    intro i hm hi hr
    have : i = n := by omega
    subst this
    refine head_go (Mc.record_Diverge_L0.eq_1) ?_
    simp [junkAll, trunc, lowFr, low, lowL, lowH, lowB, binAV, intBin, ltB, eqB]
    exact hK _ rfl hr
  | succ m ih =>
    intro i hm hi hr
    refine head_go (Mc.record_Diverge_L0.eq_1) ?_
    have hin : (i : Int) < n := by omega
    obtain ⟨x, hx, hxd⟩ := drop_head (xs := xs) (i := i) (by omega)
    obtain ⟨y, hy, hyd⟩ := drop_head (xs := ys) (i := i) (by omega)
    have hrx : x.reads.length ≤ big := by
      have := List.all_eq_true.1 hok x (List.mem_of_getElem? hx); simpa using this
    have hc : ∀ s2 h, opV G s2 h (.call Fn.record_equal) (some [.agg x.row, .agg y.row]) = some (.bool (decide (x = y)), h) := fun s2 h => op_call hG (us := [.agg x.row, .agg y.row]) (by simp [viewL, view, Done.row]) (by simp [F_equal, hrx]) (.inl rfl)
    have hw : IntKind.i64.wrap ((i : Int) + 1) = ((i + 1 : Nat) : Int) := by unfold big at hbx; rw [i64_in _ (by omega)]; rfl
    have hcut : ∀ d : Done, mkVal true 6 (cut d.row 0 6) = some (.agg d.row) := fun d => rfl
    rw [hxd, hyd] at hr
    by_cases he : x = y
    · simp only [divFrom, if_pos he] at hr
      subst he
      simp [junkAll, trunc, lowFr, low, lowL, lowH, lowB, binAV, intBin, ltB, eqB, hin, iadr_sl (doneRows_get hx) x.row_len, iadr_sl (doneRows_get hy) x.row_len, hcut, hc, unAV, hw]
      refine head_of ?_
      have := ih (i + 1) (by omega) (by omega) hr
      simpa [junkAll, trunc, lowFr, low, lowL, lowH, lowB] using this
    · simp only [divFrom, if_neg he] at hr
      subst hr
      simp [junkAll, trunc, lowFr, low, lowL, lowH, lowB, binAV, intBin, ltB, eqB, hin, iadr_sl (doneRows_get hx) x.row_len, iadr_sl (doneRows_get hy) y.row_len, hcut, hc, he, unAV, pureQ, Rs.record_Diverge, resAV, resL, resOne, view]

theorem recDiverge_ok (G : Gam) (hG : G Fn.record_equal = some (.pure F_equal)) (args : List AV) (r : AV) (h : F_Diverge args = some r) : wpM G Mc.record_Diverge (pureQ Rs.record_Diverge r) [] (frInit Ks.record_Diverge args) [] := by
  unfold F_Diverge at h
  split at h
  · rename_i a b
    split at h
    · rename_i xs ys h1 h2
      have := decAll_of (enc := Done.row) (fun r x => decDone_of) h1; subst this
      have := decAll_of (enc := Done.row) (fun r x => decDone_of) h2; subst this
      split at h
      · rename_i hb
        injection h with h
        rw [wpM_go]
        have hmin : (if ys.length < xs.length then (ys.length : Int) else xs.length) = ((min xs.length ys.length : Nat) : Int) := by split <;> omega
        have loop := fun K hK => recDiv_loop G hG r xs ys _ rfl hb.1 hb.2.2 K hK _ 0 rfl (by omega) h.symm
        simp [Mc.record_Diverge, frInit, Ks.record_Diverge, lenAV, minAV, hmin]
        have hd : xs.map Done.row = doneRows xs := rfl
        have hd2 : ys.map Done.row = doneRows ys := rfl
        rw [hd, hd2]
        rw [show (0 : Int) = ((0 : Nat) : Int) from rfl]
        refine loop _ (fun fr hfr hr => ?_)
        subst hfr hr
        by_cases e : xs.length = ys.length
        · have hxd : xs.drop (min xs.length ys.length) = [] := by rw [List.drop_eq_nil_iff]; omega
          have hyd : ys.drop (min xs.length ys.length) = [] := by rw [List.drop_eq_nil_iff]; omega
          rw [hxd, hyd]
          simp [lenAV, binAV, intBin, ltB, eqB, e, divFrom, pureQ, Rs.record_Diverge, resAV, resL, resOne, view]
        · have hbe : ((xs.length : Int) == ys.length) = false := by simp; omega
          have hdv : divFrom (min xs.length ys.length) (xs.drop (min xs.length ys.length)) (ys.drop (min xs.length ys.length)) = (min xs.length ys.length : Nat) := by
            rcases Nat.lt_or_ge xs.length ys.length with c | c
            · have hxd : xs.drop (min xs.length ys.length) = [] := by rw [List.drop_eq_nil_iff]; omega
              obtain ⟨y, _, hyd⟩ := drop_head (xs := ys) (i := min xs.length ys.length) (by omega)
              rw [hxd, hyd]; rfl
            · have hyd : ys.drop (min xs.length ys.length) = [] := by rw [List.drop_eq_nil_iff]; omega
              obtain ⟨x, _, hxd⟩ := drop_head (xs := xs) (i := min xs.length ys.length) (by omega)
              rw [hxd, hyd]; rfl
          rw [hdv]
          simp [lenAV, binAV, intBin, ltB, eqB, hbe, pureQ, Rs.record_Diverge, resAV, resL, resOne, view]
      · cases h
    · cases h
  · cases h

end Go.Proofs.YtmjdgpiofhildaaGreatDoor
