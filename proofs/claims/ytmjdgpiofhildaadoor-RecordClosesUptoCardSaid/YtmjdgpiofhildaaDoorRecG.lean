/- The reference: among, touched, wrote, Writer, Few. -/
import Derived.Test.YtmjdgpiofhildaaDoorRecF
namespace Go.Proofs.YtmjdgpiofhildaaDoor
open Go.RowKit Go.IntWalk

theorem take_succ_of {α : Type} {xs : List α} {i : Nat} {x : α} (h : xs[i]? = some x) : xs.take (i + 1) = xs.take i ++ [x] := by
  rw [List.take_add_one, h]; rfl

/-! ### among -/
def F_among : List AV → Option AV := F3 (eSl rTouch) eNat eStr eInt fun l n p => if n ≤ l.length ∧ l.length ≤ big then some (findP (fun t => t.path == p) 0 (l.take n)) else none
theorem among_loop (G : Gam) (l : List Touch) (n : Nat) (p : Bs) (hn : n ≤ l.length) (hb : l.length ≤ big) : ∀ (rest : List Touch) (i : Nat), (l.take n).drop i = rest →
    headM G [] Mc.licitref17_among_L0 0 [.blk 0, .seq (.seq (.reg [⟨none, some 6, true, .mv, [.c (.int .i64 (-1))]⟩]) .ret)] (pureQ Rs.licitref17_among (.int .i64 (findP (fun t => t.path == p) i rest)))
    [(0, .sl (touchRows l)), (1, .int .i64 n), (2, .str p), (6, .int .i64 0), (7, .int .i64 i)] []
  | [], i, hd => by
    have hi := drop_nil hd
    simp at hi
    have hi' : ltB i n = false := ltB_not.2 (by omega)
    refine head_go (Mc.licitref17_among_L0.eq_1) ?_
    simp [trunc, hi', findP, Rs.licitref17_among]
  | t :: rest, i, hd => by
    obtain ⟨hi, hx, hxd⟩ := drop_cons hd
    simp at hi
    have hi' : ltB i n = true := ltB_iff.2 (by omega)
    have hx' : l[i]? = some t := by rw [List.getElem?_take] at hx; split at hx; exact hx; cases hx
    have hw := wrap1 (i := i) (by omega)
    have ih := among_loop G l n p hn hb rest (i + 1) hxd
    refine head_go (Mc.licitref17_among_L0.eq_1) ?_
    cases hp : (t.path == p) with
    | true => simp [trunc, hi', iadr_sl (touchRows_get hx'), hp, findP, Rs.licitref17_among]
    | false =>
      simp only [findP, hp, Bool.false_eq_true, if_false]
      simp [trunc, hi', iadr_sl (touchRows_get hx'), hp, hw]
      refine head_of ?_
      simpa [trunc] using ih
theorem among_ok (G : Gam) : ∀ args r, F_among args = some r → wpM G Mc.licitref17_among (pureQ Rs.licitref17_among r) [] (frInit Ks.licitref17_among args) [] := F3_ok fun l n p r h => by
  split at h
  · rename_i ho
    injection h with h; subst h
    rw [wpM_go]
    have ih := among_loop G l n p ho.1 ho.2 (l.take n) 0 rfl
    simpa [Mc.licitref17_among, frInit, Ks.licitref17_among, eSl_touch] using ih
  · cases h

/-! ### touched -/
def touchIn (p : Bs) : List Touch → Option Bs
  | [] => none
  | t :: r => if t.path == p then some t.dig else touchIn p r
def touchedL (p : Bs) : List Done → Option Bs
  | [] => none
  | d :: r => match touchIn p d.reads with
    | some x => some x
    | none => if d.wrote.path == p then some d.wrote.dig else touchedL p r
def pairO (o : Option Bs) : Bs × Bool := (o.getD [], o.isSome)
def F_rtouched : List AV → Option AV := F3 (eSl rDone) eNat eStr (eTup2 eStr eBool) fun xs n p => if okR xs = true ∧ n ≤ xs.length then some (pairO (touchedL p (xs.take n))) else none

theorem rtouched_L1 (G : Gam) (xs : List Done) (n : Nat) (p : Bs) (i : Nat) (d : Done) (hx : xs[i]? = some d) (hb : d.reads.length ≤ big) {ks : List MK} (o : Option Bs)
    (hk : touchIn p d.reads = none → exM G .normal ks (pureQ Rs.licitref17_touched (.tup [.str (pairO o).1, .bool (pairO o).2])) [(28, .bool false), (27, .int .i64 d.reads.length), (26, .sl (touchRows d.reads)), (25, .fptr d.row 3), (24, .fptr d.row 0), (23, .int .i64 i), (22, .sl (doneRows xs)), (21, .int .i64 d.reads.length)]
      [(0, .sl (doneRows xs)), (1, .int .i64 n), (2, .str p), (6, .str []), (7, .bool false), (8, .int .i64 i), (9, .int .i64 d.reads.length)] [])
    (hr : ∀ x, touchIn p d.reads = some x → o = some x) :
    ∀ (rest : List Touch) (j : Nat), d.reads.drop j = rest → j ≤ d.reads.length → touchIn p rest = touchIn p d.reads →
    headM G [] Mc.licitref17_touched_L1 0 (.blk 2 :: ks) (pureQ Rs.licitref17_touched (.tup [.str (pairO o).1, .bool (pairO o).2]))
    [(0, .sl (doneRows xs)), (1, .int .i64 n), (2, .str p), (6, .str []), (7, .bool false), (8, .int .i64 i), (9, .int .i64 j)] []
  | [], j, hd, hj, ht => by
    have hi2 := drop_nil hd
    have e : j = d.reads.length := by omega
    have hia := fun h => iadr_sl (h := h) (k := .i64) (doneRows_get hx) d.row_len
    have hk' := hk (by rw [← ht]; rfl)
    simp only [Done.row] at hia hk'
    refine head_go (Mc.licitref17_touched_L1.eq_1) ?_
    simpa [trunc, hia, e] using hk'
  | t :: rest, j, hd, hj, ht => by
    obtain ⟨hi2, hxt, hxd⟩ := drop_cons hd
    have hi' : ltB j d.reads.length = true := ltB_iff.2 (by omega)
    have hw := wrap1 (i := j) (by omega)
    have hia := fun h => iadr_sl (h := h) (k := .i64) (doneRows_get hx) d.row_len
    simp only [Done.row] at hia
    refine head_go (Mc.licitref17_touched_L1.eq_1) ?_
    cases hp : (t.path == p) with
    | true =>
      simp only [touchIn, hp, if_true] at ht
      have := hr _ ht.symm
      subst this
      simp [trunc, hia, hi', iadr_sl (touchRows_get hxt), hp, pairO, Rs.licitref17_touched]
    | false =>
      simp only [touchIn, hp, Bool.false_eq_true, if_false] at ht
      have ih := rtouched_L1 G xs n p i d hx hb o hk hr rest (j + 1) hxd (by omega) ht
      simp [trunc, hia, hi', iadr_sl (touchRows_get hxt), hp, hw]
      refine head_of ?_
      simpa [trunc] using ih

theorem rtouched_L0 (G : Gam) (xs : List Done) (n : Nat) (p : Bs) (hok : okR xs = true) (hn : n ≤ xs.length) (o : Option Bs) : ∀ (rest : List Done) (i : Nat), (xs.take n).drop i = rest → i ≤ n → touchedL p rest = o →
    headM G [9] Mc.licitref17_touched_L0 0 [.blk 0, .seq (.seq (.reg [⟨none, some 6, true, .mv, [.c (.str [])]⟩, ⟨none, some 7, true, .mv, [.c (.bool false)]⟩]) .ret)] (pureQ Rs.licitref17_touched (.tup [.str (pairO o).1, .bool (pairO o).2]))
    [(0, .sl (doneRows xs)), (1, .int .i64 n), (2, .str p), (6, .str []), (7, .bool false), (8, .int .i64 i), (9, .junk)] []
  | [], i, hd, hi, ho => by
    have hi2 := drop_nil hd
    simp at hi2
    have hi' : ltB i n = false := ltB_not.2 (by omega)
    simp only [touchedL] at ho; subst ho
    refine head_go (Mc.licitref17_touched_L0.eq_1) ?_
    simp [trunc, hi', pairO, Rs.licitref17_touched]
  | d :: rest, i, hd, hi, ho => by
    obtain ⟨hi2, hx, hxd⟩ := drop_cons hd
    simp at hi2
    have hi' : ltB i n = true := ltB_iff.2 (by omega)
    have hi3 : ltB i xs.length = true := ltB_iff.2 (by omega)
    have hx' : xs[i]? = some d := by rw [List.getElem?_take] at hx; split at hx; exact hx; cases hx
    have hok' := hok
    simp only [okR, Bool.and_eq_true, decide_eq_true_eq] at hok'
    have hw := wrap1 (i := i) (by omega)
    have hrd : d.reads.length ≤ big := by
      have := List.all_eq_true.1 hok'.2 d (List.mem_of_getElem? hx')
      simp only [okD, Bool.and_eq_true, decide_eq_true_eq] at this; exact this.1.1
    have hia := fun h => iadr_sl (h := h) (k := .i64) (doneRows_get hx') d.row_len
    have l1 := fun ks hk => rtouched_L1 G xs n p i d hx' hrd (ks := ks) o hk (fun x hx => by rw [← ho]; simp [touchedL, hx]) d.reads 0 rfl (by omega) rfl
    simp [Done.row] at hia l1
    refine head_go (Mc.licitref17_touched_L0.eq_1) ?_
    simp [trunc, hi', hi3]
    refine l1 _ (fun hnone => ?_)
    simp only [touchedL, hnone] at ho
    cases hp : (d.wrote.path == p) with
    | true =>
      simp only [hp, if_true] at ho; subst ho
      simp [hia, hp, pairO, Rs.licitref17_touched]
    | false =>
      simp only [hp, Bool.false_eq_true, if_false] at ho
      have ih := rtouched_L0 G xs n p hok hn o rest (i + 1) hxd (by omega) ho
      simp [hia, hp, hw]
      refine head_of ?_
      simpa [trunc] using ih

theorem rtouched_ok (G : Gam) : ∀ args r, F_rtouched args = some r → wpM G Mc.licitref17_touched (pureQ Rs.licitref17_touched r) [] (frInit Ks.licitref17_touched args) [] := F3_ok fun xs n p r h => by
  split at h
  · rename_i ho
    injection h with h; subst h
    rw [wpM_go, eSl_done]
    have ih := rtouched_L0 G xs n p ho.1 ho.2 _ (xs.take n) 0 rfl (by omega) rfl
    simpa [Mc.licitref17_touched, frInit, Ks.licitref17_touched] using ih
  · cases h

/-! ### wrote -/
def wroteE (xs : List Done) (p : Bs) : Int := findP (fun d => d.wrote.path == p) 0 xs
def F_wrote : List AV → Option AV := F2 (eSl rDone) eStr eInt fun xs p => if xs.length ≤ big then some (wroteE xs p) else none
theorem wrote_loop (G : Gam) (l : List Done) (p : Bs) (hb : l.length ≤ big) : ∀ (rest : List Done) (i : Nat), l.drop i = rest →
    headM G [] Mc.licitref17_wrote_L0 0 [.blk 0, .seq (.seq (.reg [⟨none, some 4, true, .mv, [.c (.int .i64 (-1))]⟩]) .ret)] (pureQ Rs.licitref17_wrote (.int .i64 (findP (fun t => t.wrote.path == p) i rest)))
    [(0, .sl (doneRows l)), (1, .str p), (4, .int .i64 0), (5, .int .i64 i)] []
  | [], i, hd => by
    have hi := drop_nil hd
    have hi' : ltB i l.length = false := ltB_not.2 (by omega)
    refine head_go (Mc.licitref17_wrote_L0.eq_1) ?_
    simp [trunc, hi', findP, Rs.licitref17_wrote]
  | t :: rest, i, hd => by
    obtain ⟨hi, hx, hxd⟩ := drop_cons hd
    have hi' : ltB i l.length = true := ltB_iff.2 (by omega)
    have hw := wrap1 (i := i) (by omega)
    have ih := wrote_loop G l p hb rest (i + 1) hxd
    have hia := fun h => iadr_sl (h := h) (k := .i64) (doneRows_get hx) t.row_len
    simp only [Done.row] at hia
    refine head_go (Mc.licitref17_wrote_L0.eq_1) ?_
    cases hp : (t.wrote.path == p) with
    | true => simp [trunc, hi', hia, hp, findP, Rs.licitref17_wrote]
    | false =>
      simp only [findP, hp, Bool.false_eq_true, if_false]
      simp [trunc, hi', hia, hp, hw]
      refine head_of ?_
      simpa [trunc] using ih
theorem wrote_ok (G : Gam) : ∀ args r, F_wrote args = some r → wpM G Mc.licitref17_wrote (pureQ Rs.licitref17_wrote r) [] (frInit Ks.licitref17_wrote args) [] := F2_ok fun l p r h => by
  split at h
  · rename_i ho
    injection h with h; subst h
    rw [wpM_go]
    have ih := wrote_loop G l p ho l 0 rfl
    simpa [Mc.licitref17_wrote, frInit, Ks.licitref17_wrote, eSl_done, wroteE] using ih
  · cases h

end Go.Proofs.YtmjdgpiofhildaaDoor
