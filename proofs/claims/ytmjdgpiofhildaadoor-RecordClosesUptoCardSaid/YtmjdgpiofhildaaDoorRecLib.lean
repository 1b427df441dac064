/- Functions of the library that the record laws call: slices.Equal, Index, Contains. -/
import Derived.Test.YtmjdgpiofhildaaDoorRecMc
import Derived.Test.YtmjdgpiofhildaaDoorAbs25
namespace Go.Proofs.YtmjdgpiofhildaaDoor
open Go.RowKit Go.IntWalk

def decStrs : List (List AV) → Option (List Bs)
  | [] => some []
  | [.str s] :: r => (decStrs r).map (s :: ·)
  | _ => none
def encStrs (xs : List Bs) : List (List AV) := xs.map fun s => [.str s]
theorem decStrs_of : ∀ {rows : List (List AV)} {xs : List Bs}, decStrs rows = some xs → rows = encStrs xs
  | [], xs, h => by simp [decStrs] at h; subst h; rfl
  | r :: rs, xs, h => by
    unfold decStrs at h
    split at h
    · rename_i e; cases e
    · rename_i s rs' e
      cases e
      simp only [Option.map_eq_some_iff] at h
      obtain ⟨ys, h1, rfl⟩ := h
      rw [decStrs_of h1]; rfl
    · cases h
theorem encStrs_get {xs : List Bs} {i : Nat} {s : Bs} (h : xs[i]? = some s) : (encStrs xs)[i]? = some [.str s] := by simp [encStrs, h]
@[simp] theorem encStrs_len {xs : List Bs} : (encStrs xs).length = xs.length := by simp [encStrs]

def decInts : List (List AV) → Option (List Int)
  | [] => some []
  | [.int .i64 s] :: r => (decInts r).map (s :: ·)
  | _ => none
def encInts (xs : List Int) : List (List AV) := xs.map fun s => [.int .i64 s]
theorem decInts_of : ∀ {rows : List (List AV)} {xs : List Int}, decInts rows = some xs → rows = encInts xs
  | [], xs, h => by simp [decInts] at h; subst h; rfl
  | r :: rs, xs, h => by
    unfold decInts at h
    split at h
    · rename_i e; cases e
    · rename_i s rs' e
      cases e
      simp only [Option.map_eq_some_iff] at h
      obtain ⟨ys, h1, rfl⟩ := h
      rw [decInts_of h1]; rfl
    · cases h
theorem encInts_get {xs : List Int} {i : Nat} {s : Int} (h : xs[i]? = some s) : (encInts xs)[i]? = some [.int .i64 s] := by simp [encInts, h]
@[simp] theorem encInts_len {xs : List Int} : (encInts xs).length = xs.length := by simp [encInts]

/-! ### slices.Equal -/
def F_EqualS : List AV → Option AV
  | [.sl a, .sl b] => match decStrs a, decStrs b with
    | some x, some y => if x.length ≤ big then some (.bool (decide (x = y))) else none
    | _, _ => none
  | _ => none

theorem equalS_loop (G : Gam) (r : AV) (xs ys : List Bs) (hl : xs.length = ys.length) (hb : xs.length ≤ big) : ∀ (rest : List Bs) (i : Nat), xs.drop i = rest → i + rest.length = xs.length → r = .bool (decide (rest = ys.drop i)) →
    headM G [5] Mc.slices_Equal___string_string__L0 0 [.blk 0, .seq (.seq (.reg [⟨none, some 4, true, .mv, [.c (.bool true)]⟩]) .ret)] (pureQ Rs.slices_Equal___string_string_ r)
    [(0, .sl (encStrs xs)), (1, .sl (encStrs ys)), (4, .bool false), (5, .junk), (12, .int .i64 xs.length), (13, .int .i64 i)] []
  | [], i, hd, hn, hr => by
    refine head_go (Mc.slices_Equal___string_string__L0.eq_1) ?_
    simp at hn
    have : ys.drop i = [] := by rw [List.drop_eq_nil_iff]; omega
    rw [this] at hr
    simp at hr
    subst hr
    simp [junkAll, trunc, lowFr, low, lowH, lowB, binAV, intBin, ltB, eqB, hn, pureQ, Rs.slices_Equal___string_string_, resAV, resL, resOne, view]
  | x :: rest, i, hd, hn, hr => by
    refine head_go (Mc.slices_Equal___string_string__L0.eq_1) ?_
    simp at hn
    have hi : (i : Int) < xs.length := by omega
    have hx : xs[i]? = some x := by have := congrArg (·[0]?) hd; simpa using this
    have hyl : i < ys.length := by omega
    obtain ⟨y, hy, hyd⟩ := drop_head hyl
    have hxd : xs.drop (i + 1) = rest := by rw [← List.drop_drop, hd]; rfl
    have hw : IntKind.i64.wrap ((i : Int) + 1) = ((i + 1 : Nat) : Int) := by unfold big at hb; rw [i64_in _ (by omega)]; rfl
    simp [junkAll, trunc, lowFr, low, lowH, lowB, binAV, intBin, ltB, eqB, hi, iadr_sl (encStrs_get hx), iadr_sl (encStrs_get hy), cut, strBin]
    by_cases he : x = y
    · simp [he, binAV, intBin, ltB, eqB, hw]
      refine head_of ?_
      have ih := equalS_loop G r xs ys hl hb rest (i + 1) hxd (by omega) (by rw [hr]; congr 2; rw [hyd, he]; simp)
      simpa [junkAll, trunc, lowFr, low, lowH, lowB] using ih
    · rw [hyd] at hr
      simp [he] at hr
      subst hr
      have hbe : (x == y) = false := by simp [he]
      simp [hbe, pureQ, Rs.slices_Equal___string_string_, resAV, resL, resOne, view]

theorem equalS_ok (G : Gam) (args : List AV) (r : AV) (h : F_EqualS args = some r) : wpM G Mc.slices_Equal___string_string_ (pureQ Rs.slices_Equal___string_string_ r) [] (frInit Ks.slices_Equal___string_string_ args) [] := by
  unfold F_EqualS at h
  split at h
  · rename_i a b
    split at h
    · rename_i xs ys h1 h2
      have := decStrs_of h1; subst this
      have := decStrs_of h2; subst this
      split at h
      · rename_i hb
        injection h with h
        rw [wpM_go]
        by_cases hl : xs.length = ys.length
        · have ih := equalS_loop G r xs ys hl hb xs 0 rfl (by simp) (by simp [← h])
          simpa [Mc.slices_Equal___string_string_, frInit, Ks.slices_Equal___string_string_, lenAV, binAV, intBin, ltB, eqB, hl] using ih
        · have hl' : ¬ ((xs.length : Int) = ys.length) := by omega
          have : decide (xs = ys) = false := by simp; intro e; exact hl (by rw [e])
          rw [this] at h
          have hbe : ((xs.length : Int) != ys.length) = true := by simp [bne]; omega
          simp [hbe, Mc.slices_Equal___string_string_, frInit, Ks.slices_Equal___string_string_, lenAV, binAV, intBin, ltB, eqB, hl', pureQ, Rs.slices_Equal___string_string_, resAV, resL, resOne, view, ← h]
      · cases h
    · cases h
  · cases h

/-! ### slices.Equal, of numbers -/
def F_EqualI : List AV → Option AV
  | [.sl a, .sl b] => match decInts a, decInts b with
    | some x, some y => if x.length ≤ big then some (.bool (decide (x = y))) else none
    | _, _ => none
  | _ => none

theorem equalI_loop (G : Gam) (r : AV) (xs ys : List Int) (hl : xs.length = ys.length) (hb : xs.length ≤ big) : ∀ (rest : List Int) (i : Nat), xs.drop i = rest → i + rest.length = xs.length → r = .bool (decide (rest = ys.drop i)) →
    headM G [5] Mc.slices_Equal___int_int__L0 0 [.blk 0, .seq (.seq (.reg [⟨none, some 4, true, .mv, [.c (.bool true)]⟩]) .ret)] (pureQ Rs.slices_Equal___int_int_ r)
    [(0, .sl (encInts xs)), (1, .sl (encInts ys)), (4, .bool false), (5, .junk), (12, .int .i64 xs.length), (13, .int .i64 i)] []
  | [], i, hd, hn, hr => by
    refine head_go (Mc.slices_Equal___int_int__L0.eq_1) ?_
    simp at hn
    have : ys.drop i = [] := by rw [List.drop_eq_nil_iff]; omega
    rw [this] at hr
    simp at hr
    subst hr
    simp [junkAll, trunc, lowFr, low, lowH, lowB, binAV, intBin, ltB, eqB, hn, pureQ, Rs.slices_Equal___int_int_, resAV, resL, resOne, view]
  | x :: rest, i, hd, hn, hr => by
    refine head_go (Mc.slices_Equal___int_int__L0.eq_1) ?_
    simp at hn
    have hi : (i : Int) < xs.length := by omega
    have hx : xs[i]? = some x := by have := congrArg (·[0]?) hd; simpa using this
    have hyl : i < ys.length := by omega
    obtain ⟨y, hy, hyd⟩ := drop_head hyl
    have hxd : xs.drop (i + 1) = rest := by rw [← List.drop_drop, hd]; rfl
    have hw : IntKind.i64.wrap ((i : Int) + 1) = ((i + 1 : Nat) : Int) := by unfold big at hb; rw [i64_in _ (by omega)]; rfl
    simp [junkAll, trunc, lowFr, low, lowH, lowB, binAV, intBin, ltB, eqB, hi, iadr_sl (encInts_get hx), iadr_sl (encInts_get hy), cut, strBin]
    by_cases he : x = y
    · simp [he, bne, binAV, intBin, ltB, eqB, hw]
      refine head_of ?_
      have ih := equalI_loop G r xs ys hl hb rest (i + 1) hxd (by omega) (by rw [hr]; congr 2; rw [hyd, he]; simp)
      simpa [junkAll, trunc, lowFr, low, lowH, lowB] using ih
    · rw [hyd] at hr
      simp [he] at hr
      subst hr
      have hbe : (x == y) = false := by simp [he]
      simp [hbe, bne, eqB, pureQ, Rs.slices_Equal___int_int_, resAV, resL, resOne, view]

theorem equalI_ok (G : Gam) (args : List AV) (r : AV) (h : F_EqualI args = some r) : wpM G Mc.slices_Equal___int_int_ (pureQ Rs.slices_Equal___int_int_ r) [] (frInit Ks.slices_Equal___int_int_ args) [] := by
  unfold F_EqualI at h
  split at h
  · rename_i a b
    split at h
    · rename_i xs ys h1 h2
      have := decInts_of h1; subst this
      have := decInts_of h2; subst this
      split at h
      · rename_i hb
        injection h with h
        rw [wpM_go]
        by_cases hl : xs.length = ys.length
        · have ih := equalI_loop G r xs ys hl hb xs 0 rfl (by simp) (by simp [← h])
          simpa [Mc.slices_Equal___int_int_, frInit, Ks.slices_Equal___int_int_, lenAV, binAV, intBin, ltB, eqB, hl] using ih
        · have hl' : ¬ ((xs.length : Int) = ys.length) := by omega
          have : decide (xs = ys) = false := by simp; intro e; exact hl (by rw [e])
          rw [this] at h
          have hbe : ((xs.length : Int) != ys.length) = true := by simp [bne]; omega
          simp [hbe, Mc.slices_Equal___int_int_, frInit, Ks.slices_Equal___int_int_, lenAV, binAV, intBin, ltB, eqB, hl', pureQ, Rs.slices_Equal___int_int_, resAV, resL, resOne, view, ← h]
      · cases h
    · cases h
  · cases h

/-! ### slices.Index, slices.Contains -/
def idxFrom {α : Type} [DecidableEq α] (x : α) (i : Nat) : List α → Int
  | [] => -1
  | y :: r => if x = y then i else idxFrom x (i + 1) r

def F_IndexS : List AV → Option AV
  | [.sl a, .str s] => match decStrs a with
    | some x => if x.length ≤ big then some (.int .i64 (idxFrom s 0 x)) else none
    | none => none
  | _ => none

theorem indexS_loop (G : Gam) (r : AV) (xs : List Bs) (s : Bs) (hb : xs.length ≤ big) : ∀ (rest : List Bs) (i : Nat), xs.drop i = rest → i + rest.length = xs.length → r = .int .i64 (idxFrom s i rest) →
    headM G [5] Mc.slices_Index___string_string__L0 0 [.blk 0, .seq (.seq (.reg [⟨none, some 4, true, .mv, [.c (.int .i64 (-1))]⟩]) .ret)] (pureQ Rs.slices_Index___string_string_ r)
    [(0, .sl (encStrs xs)), (1, .str s), (4, .int .i64 0), (5, .junk), (7, .int .i64 xs.length), (8, .int .i64 i)] []
  | [], i, hd, hn, hr => by
    refine head_go (Mc.slices_Index___string_string__L0.eq_1) ?_
    simp at hn
    simp [idxFrom] at hr
    subst hr
    simp [junkAll, trunc, lowFr, low, lowH, lowB, binAV, intBin, ltB, eqB, hn, pureQ, Rs.slices_Index___string_string_, resAV, resL, resOne, view]
  | x :: rest, i, hd, hn, hr => by
    refine head_go (Mc.slices_Index___string_string__L0.eq_1) ?_
    simp at hn
    have hi : (i : Int) < xs.length := by omega
    have hx : xs[i]? = some x := by have := congrArg (·[0]?) hd; simpa using this
    have hxd : xs.drop (i + 1) = rest := by rw [← List.drop_drop, hd]; rfl
    have hw : IntKind.i64.wrap ((i : Int) + 1) = ((i + 1 : Nat) : Int) := by unfold big at hb; rw [i64_in _ (by omega)]; rfl
    by_cases he : s = x
    · have hbe : (s == x) = true := by simp [he]
      simp only [idxFrom, if_pos he] at hr
      subst hr
      simp [junkAll, trunc, lowFr, low, lowH, lowB, binAV, intBin, ltB, eqB, hi, iadr_sl (encStrs_get hx), cut, strBin, hbe, pureQ, Rs.slices_Index___string_string_, resAV, resL, resOne, view]
    · have hbe : (s == x) = false := by simp [he]
      simp only [idxFrom, if_neg he] at hr
      simp [junkAll, trunc, lowFr, low, lowH, lowB, binAV, intBin, ltB, eqB, hi, iadr_sl (encStrs_get hx), cut, strBin, hbe, hw]
      refine head_of ?_
      have ih := indexS_loop G r xs s hb rest (i + 1) hxd (by omega) hr
      simpa [junkAll, trunc, lowFr, low, lowH, lowB] using ih

theorem indexS_ok (G : Gam) (args : List AV) (r : AV) (h : F_IndexS args = some r) : wpM G Mc.slices_Index___string_string_ (pureQ Rs.slices_Index___string_string_ r) [] (frInit Ks.slices_Index___string_string_ args) [] := by
  unfold F_IndexS at h
  split at h
  · rename_i a s
    split at h
    · rename_i xs h1
      have := decStrs_of h1; subst this
      split at h
      · rename_i hb
        injection h with h
        rw [wpM_go]
        have ih := indexS_loop G r xs s hb xs 0 rfl (by simp) h.symm
        simpa [Mc.slices_Index___string_string_, frInit, Ks.slices_Index___string_string_, lenAV] using ih
      · cases h
    · cases h
  · cases h

def F_ContainsS : List AV → Option AV
  | [.sl a, .str s] => match decStrs a with
    | some x => if x.length ≤ big then some (.bool (!ltB (idxFrom s 0 x) 0)) else none
    | none => none
  | _ => none

theorem containsS_ok (G : Gam) (hG : G Fn.slices_Index___string_string_ = some (.pure F_IndexS)) (args : List AV) (r : AV) (h : F_ContainsS args = some r) : wpM G Mc.slices_Contains___string_string_ (pureQ Rs.slices_Contains___string_string_ r) [] (frInit Ks.slices_Contains___string_string_ args) [] := by
  unfold F_ContainsS at h
  split at h
  · rename_i a s
    split at h
    · rename_i xs h1
      split at h
      · rename_i hb
        injection h with h
        subst h
        have hc : ∀ s2 h, opV G s2 h (.call Fn.slices_Index___string_string_) (some [.sl a, .str s]) = some (.int .i64 (idxFrom s 0 xs), h) := fun s2 h => op_call hG rfl (by simp [F_IndexS, h1, hb]) (.inl rfl)
        rw [wpM_go]
        simp [Mc.slices_Contains___string_string_, frInit, Ks.slices_Contains___string_string_, hc, pureQ, Rs.slices_Contains___string_string_, resAV, resL, resOne, view]
      · cases h
    · cases h
  · cases h

/-! ### slices.Index, slices.Contains -/
def F_IndexI : List AV → Option AV
  | [.sl a, .int .i64 s] => match decInts a with
    | some x => if x.length ≤ big then some (.int .i64 (idxFrom s 0 x)) else none
    | none => none
  | _ => none

theorem indexI_loop (G : Gam) (r : AV) (xs : List Int) (s : Int) (hb : xs.length ≤ big) : ∀ (rest : List Int) (i : Nat), xs.drop i = rest → i + rest.length = xs.length → r = .int .i64 (idxFrom s i rest) →
    headM G [5] Mc.slices_Index___int_int__L0 0 [.blk 0, .seq (.seq (.reg [⟨none, some 4, true, .mv, [.c (.int .i64 (-1))]⟩]) .ret)] (pureQ Rs.slices_Index___int_int_ r)
    [(0, .sl (encInts xs)), (1, .int .i64 s), (4, .int .i64 0), (5, .junk), (7, .int .i64 xs.length), (8, .int .i64 i)] []
  | [], i, hd, hn, hr => by
    refine head_go (Mc.slices_Index___int_int__L0.eq_1) ?_
    simp at hn
    simp [idxFrom] at hr
    subst hr
    simp [junkAll, trunc, lowFr, low, lowH, lowB, binAV, intBin, ltB, eqB, hn, pureQ, Rs.slices_Index___int_int_, resAV, resL, resOne, view]
  | x :: rest, i, hd, hn, hr => by
    refine head_go (Mc.slices_Index___int_int__L0.eq_1) ?_
    simp at hn
    have hi : (i : Int) < xs.length := by omega
    have hx : xs[i]? = some x := by have := congrArg (·[0]?) hd; simpa using this
    have hxd : xs.drop (i + 1) = rest := by rw [← List.drop_drop, hd]; rfl
    have hw : IntKind.i64.wrap ((i : Int) + 1) = ((i + 1 : Nat) : Int) := by unfold big at hb; rw [i64_in _ (by omega)]; rfl
    by_cases he : s = x
    · have hbe : (s == x) = true := by simp [he]
      simp only [idxFrom, if_pos he] at hr
      subst hr
      simp [junkAll, trunc, lowFr, low, lowH, lowB, binAV, intBin, ltB, eqB, hi, iadr_sl (encInts_get hx), cut, strBin, hbe, pureQ, Rs.slices_Index___int_int_, resAV, resL, resOne, view]
    · have hbe : (s == x) = false := by simp [he]
      simp only [idxFrom, if_neg he] at hr
      simp [junkAll, trunc, lowFr, low, lowH, lowB, binAV, intBin, ltB, eqB, hi, iadr_sl (encInts_get hx), cut, strBin, hbe, hw]
      refine head_of ?_
      have ih := indexI_loop G r xs s hb rest (i + 1) hxd (by omega) hr
      simpa [junkAll, trunc, lowFr, low, lowH, lowB] using ih

theorem indexI_ok (G : Gam) (args : List AV) (r : AV) (h : F_IndexI args = some r) : wpM G Mc.slices_Index___int_int_ (pureQ Rs.slices_Index___int_int_ r) [] (frInit Ks.slices_Index___int_int_ args) [] := by
  unfold F_IndexI at h
  split at h
  · rename_i a s
    split at h
    · rename_i xs h1
      have := decInts_of h1; subst this
      split at h
      · rename_i hb
        injection h with h
        rw [wpM_go]
        have ih := indexI_loop G r xs s hb xs 0 rfl (by simp) h.symm
        simpa [Mc.slices_Index___int_int_, frInit, Ks.slices_Index___int_int_, lenAV] using ih
      · cases h
    · cases h
  · cases h

def F_ContainsI : List AV → Option AV
  | [.sl a, .int .i64 s] => match decInts a with
    | some x => if x.length ≤ big then some (.bool (!ltB (idxFrom s 0 x) 0)) else none
    | none => none
  | _ => none

theorem containsI_ok (G : Gam) (hG : G Fn.slices_Index___int_int_ = some (.pure F_IndexI)) (args : List AV) (r : AV) (h : F_ContainsI args = some r) : wpM G Mc.slices_Contains___int_int_ (pureQ Rs.slices_Contains___int_int_ r) [] (frInit Ks.slices_Contains___int_int_ args) [] := by
  unfold F_ContainsI at h
  split at h
  · rename_i a s
    split at h
    · rename_i xs h1
      split at h
      · rename_i hb
        injection h with h
        subst h
        have hc : ∀ s2 h, opV G s2 h (.call Fn.slices_Index___int_int_) (some [.sl a, .int .i64 s]) = some (.int .i64 (idxFrom s 0 xs), h) := fun s2 h => op_call hG rfl (by simp [F_IndexI, h1, hb]) (.inl rfl)
        rw [wpM_go]
        simp [Mc.slices_Contains___int_int_, frInit, Ks.slices_Contains___int_int_, hc, pureQ, Rs.slices_Contains___int_int_, resAV, resL, resOne, view]
      · cases h
    · cases h
  · cases h

end Go.Proofs.YtmjdgpiofhildaaDoor
