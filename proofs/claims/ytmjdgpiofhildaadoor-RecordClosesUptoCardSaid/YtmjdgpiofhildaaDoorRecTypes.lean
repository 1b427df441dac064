/- Touched files, steps, records: as rows. -/
import Derived.Test.YtmjdgpiofhildaaDoorRecLib
namespace Go.Proofs.YtmjdgpiofhildaaDoor
open Go.RowKit Go.IntWalk

structure Touch where
  path : Bs
  dig : Bs
  deriving DecidableEq, Inhabited

structure Done where
  pkg : Int
  line : Int
  kind : Int
  reads : List Touch
  wrote : Touch
  deriving DecidableEq, Inhabited

def Touch.row (t : Touch) : List AV := [.str t.path, .str t.dig]
def decTouch : List AV → Option Touch
  | [.str p, .str d] => some ⟨p, d⟩
  | _ => none
theorem decTouch_of {row : List AV} {t : Touch} (h : decTouch row = some t) : row = t.row := by
  unfold decTouch at h; split at h
  · injection h with h; subst h; rfl
  · cases h

/-- All rows, or none. -/
def decAll {α : Type} (dec : List AV → Option α) : List (List AV) → Option (List α)
  | [] => some []
  | r :: rs => match dec r, decAll dec rs with
    | some x, some xs => some (x :: xs)
    | _, _ => none
theorem decAll_of {α : Type} {dec : List AV → Option α} {enc : α → List AV} (h1 : ∀ r x, dec r = some x → r = enc x) : ∀ {rows : List (List AV)} {xs : List α}, decAll dec rows = some xs → rows = xs.map enc
  | [], xs, h => by simp [decAll] at h; subst h; rfl
  | r :: rs, xs, h => by
    simp only [decAll] at h
    split at h
    · rename_i x xs' h2 h3
      injection h with h; subst h
      rw [h1 r x h2, decAll_of h1 h3]; rfl
    · cases h
theorem decAll_enc {α : Type} {dec : List AV → Option α} {enc : α → List AV} (h1 : ∀ x, dec (enc x) = some x) : ∀ (xs : List α), decAll dec (xs.map enc) = some xs
  | [] => rfl
  | x :: xs => by simp [decAll, h1, decAll_enc h1 xs]

@[simp] theorem decTouch_row (t : Touch) : decTouch t.row = some t := rfl
def touchRows (ts : List Touch) : List (List AV) := ts.map Touch.row
@[simp] theorem touchRows_len {ts : List Touch} : (touchRows ts).length = ts.length := by simp [touchRows]
theorem touchRows_get {ts : List Touch} {i : Nat} {t : Touch} (h : ts[i]? = some t) : (touchRows ts)[i]? = some [.str t.path, .str t.dig] := by simp [touchRows, h, Touch.row]
@[simp] theorem dec_touchRows (ts : List Touch) : decAll decTouch (touchRows ts) = some ts := decAll_enc decTouch_row ts

def Done.row (d : Done) : List AV := [.int .i64 d.pkg, .int .i64 d.line, .int .i64 d.kind, .sl (touchRows d.reads), .str d.wrote.path, .str d.wrote.dig]
def decDone : List AV → Option Done
  | [.int .i64 p, .int .i64 l, .int .i64 k, .sl rows, .str wp, .str wd] => (decAll decTouch rows).map fun ts => ⟨p, l, k, ts, ⟨wp, wd⟩⟩
  | _ => none
theorem decDone_of {row : List AV} {d : Done} (h : decDone row = some d) : row = d.row := by
  unfold decDone at h; split at h
  · simp only [Option.map_eq_some_iff] at h
    obtain ⟨ts, h1, rfl⟩ := h
    rw [decAll_of (enc := Touch.row) (fun r x => decTouch_of) h1]; rfl
  · cases h
@[simp] theorem decDone_row (d : Done) : decDone d.row = some d := by simp [decDone, Done.row]
def doneRows (ds : List Done) : List (List AV) := ds.map Done.row
@[simp] theorem doneRows_len {ts : List Done} : (doneRows ts).length = ts.length := by simp [doneRows]
theorem doneRows_get {ts : List Done} {i : Nat} {t : Done} (h : ts[i]? = some t) : (doneRows ts)[i]? = some t.row := by simp [doneRows, h]
@[simp] theorem dec_doneRows (ts : List Done) : decAll decDone (doneRows ts) = some ts := decAll_enc decDone_row ts


def rTouch : REnc Touch := ⟨Touch.row, decTouch, decTouch_row, fun _ _ => decTouch_of⟩
def rDone : REnc Done := ⟨Done.row, decDone, decDone_row, fun _ _ => decDone_of⟩
theorem eSl_touch (xs : List Touch) : (eSl rTouch).enc xs = .sl (touchRows xs) := rfl
theorem eSl_done (xs : List Done) : (eSl rDone).enc xs = .sl (doneRows xs) := rfl
theorem eAgg_touch (x : Touch) : (eAgg rTouch).enc x = .agg x.row := rfl
theorem eAgg_done (x : Done) : (eAgg rDone).enc x = .agg x.row := rfl

/-- Small enough to be spoken of. -/
def okT (t : Touch) : Bool := decide (t.path.length < 4294967281)
def okD (d : Done) : Bool := decide (d.reads.length ≤ big) && d.reads.all okT && okT d.wrote
def okR (r : List Done) : Bool := decide (r.length ≤ big) && r.all okD

/-! ### Equal touched files, equal steps -/
def F_EqualT : List AV → Option AV
  | [.sl a, .sl b] => match decAll decTouch a, decAll decTouch b with
    | some x, some y => if x.length ≤ big then some (.bool (decide (x = y))) else none
    | _, _ => none
  | _ => none

theorem eqT {t u : Touch} : eqCells [.s, .s] [.str t.path, .str t.dig] [.str u.path, .str u.dig] = some (decide (t = u)) := by
  obtain ⟨p, d⟩ := t
  obtain ⟨q, e⟩ := u
  by_cases h1 : p = q
  · by_cases h2 : d = e
    · simp [eqCells, h1, h2]
    · simp [eqCells, h1, h2]
  · simp [eqCells, h1]

theorem equalT_loop (G : Gam) (r : AV) (xs ys : List Touch) (hl : xs.length = ys.length) (hb : xs.length ≤ big) : ∀ (rest : List Touch) (i : Nat), xs.drop i = rest → i + rest.length = xs.length → r = .bool (decide (rest = ys.drop i)) →
    headM G [5] Mc.slices_Equal___api_Touch_api_Touch__L0 0 [.blk 0, .seq (.seq (.reg [⟨none, some 4, true, .mv, [.c (.bool true)]⟩]) .ret)] (pureQ Rs.slices_Equal___api_Touch_api_Touch_ r)
    [(0, .sl (touchRows xs)), (1, .sl (touchRows ys)), (4, .bool false), (5, .junk), (12, .int .i64 xs.length), (13, .int .i64 i)] []
  | [], i, hd, hn, hr => by
    refine head_go (Mc.slices_Equal___api_Touch_api_Touch__L0.eq_1) ?_
    simp at hn
    have : ys.drop i = [] := by rw [List.drop_eq_nil_iff]; omega
    rw [this] at hr
    simp at hr
    subst hr
    simp [junkAll, trunc, lowFr, low, lowH, lowB, binAV, intBin, ltB, eqB, hn, pureQ, Rs.slices_Equal___api_Touch_api_Touch_, resAV, resL, resOne, view]
  | x :: rest, i, hd, hn, hr => by
    refine head_go (Mc.slices_Equal___api_Touch_api_Touch__L0.eq_1) ?_
    simp at hn
    have hi : (i : Int) < xs.length := by omega
    have hx : xs[i]? = some x := by have := congrArg (·[0]?) hd; simpa using this
    have hyl : i < ys.length := by omega
    obtain ⟨y, hy, hyd⟩ := drop_head hyl
    have hxd : xs.drop (i + 1) = rest := by rw [← List.drop_drop, hd]; rfl
    have hw : IntKind.i64.wrap ((i : Int) + 1) = ((i + 1 : Nat) : Int) := by unfold big at hb; rw [i64_in _ (by omega)]; rfl
    simp [junkAll, trunc, lowFr, low, lowH, lowB, binAV, intBin, ltB, eqB, hi, iadr_sl (touchRows_get hx), iadr_sl (touchRows_get hy), cut, mkVal, eqT]
    by_cases he : x = y
    · simp [he, binAV, intBin, ltB, eqB, hw]
      refine head_of ?_
      have ih := equalT_loop G r xs ys hl hb rest (i + 1) hxd (by omega) (by rw [hr]; congr 2; rw [hyd, he]; simp)
      simpa [junkAll, trunc, lowFr, low, lowH, lowB] using ih
    · rw [hyd] at hr
      simp [he] at hr
      subst hr
      simp [he, pureQ, Rs.slices_Equal___api_Touch_api_Touch_, resAV, resL, resOne, view]

theorem equalT_ok (G : Gam) (args : List AV) (r : AV) (h : F_EqualT args = some r) : wpM G Mc.slices_Equal___api_Touch_api_Touch_ (pureQ Rs.slices_Equal___api_Touch_api_Touch_ r) [] (frInit Ks.slices_Equal___api_Touch_api_Touch_ args) [] := by
  unfold F_EqualT at h
  split at h
  · rename_i a b
    split at h
    · rename_i xs ys h1 h2
      have := decAll_of (enc := Touch.row) (fun r x => decTouch_of) h1; subst this
      have := decAll_of (enc := Touch.row) (fun r x => decTouch_of) h2; subst this
      split at h
      · rename_i hb
        injection h with h
        rw [wpM_go]
        by_cases hl : xs.length = ys.length
        · have ih := equalT_loop G r xs ys hl hb xs 0 rfl (by simp) (by simp [← h])
          simpa [Mc.slices_Equal___api_Touch_api_Touch_, frInit, Ks.slices_Equal___api_Touch_api_Touch_, lenAV, binAV, intBin, ltB, eqB, hl, touchRows] using ih
        · have : decide (xs = ys) = false := by simp; intro e; exact hl (by rw [e])
          rw [this] at h
          have hbe : ((xs.length : Int) != ys.length) = true := by simp [bne]; omega
          simp [hbe, Mc.slices_Equal___api_Touch_api_Touch_, frInit, Ks.slices_Equal___api_Touch_api_Touch_, lenAV, binAV, intBin, ltB, eqB, pureQ, Rs.slices_Equal___api_Touch_api_Touch_, resAV, resL, resOne, view, ← h]
      · cases h
    · cases h
  · cases h

end Go.Proofs.YtmjdgpiofhildaaDoor
