/- record.Needed, Affected. The reference: among, touched, wrote, Writer, Few. The reference: step, Check, Writer, Few. -/
import Derived.Test.YtmjdgpiofhildaaGreatDoorRmC
namespace Go.Proofs.YtmjdgpiofhildaaGreatDoor
open Go.RowKit Go.IntWalk

@[simp] theorem rInt_enc (n : Int) : rInt.enc n = [.int .i64 n] := rfl
@[simp] theorem rBool_enc (b : Bool) : rBool.enc b = [.bool b] := rfl

/-- The places at which something is marked. -/
def marked (i : Nat) : List Bool → List Int
  | [] => []
  | b :: r => if b then (i : Int) :: marked (i + 1) r else marked (i + 1) r

theorem needed_len_le (xs : List Done) (p : Bs) : (neededE xs p).1.length ≤ xs.length := by
  unfold neededE
  simp only
  split
  · simp
  · simp [markDown_len]

def F_Needed : List AV → Option AV := F2 (eSl rDone) eStr (eSl rInt) fun xs p => if okR xs then some (marked 0 (neededE xs p).1) else none

theorem Needed_loop (G : Gam) (a0 a1 : AV) (ms : List Bool) (hb : ms.length ≤ big) {ks : List MK} {Q : MPost} (fin : List Int) :
    ∀ (rest : List Bool) (i : Nat) (os : List Int), ms.drop i = rest → i ≤ ms.length → os.length ≤ i → os ++ marked i rest = fin →
    exM G .normal ks Q [(19, .bool false)] [(0, a0), (1, a1), (4, .own 0 0 0), (5, .sl (ms.map rBool.enc)), (7, .own 1 fin.length fin.length), (8, .junk), (9, .junk), (16, .sl (ms.map rBool.enc)), (17, .int .i64 ms.length), (18, .int .i64 ms.length)] [.arr 1 0 [] true, .arr 1 fin.length (fin.map rInt.enc) true] →
    headM G [8, 9] Mc.record_Needed_L0 2 (.blk 0 :: ks) Q [(0, a0), (1, a1), (4, .own 0 0 0), (5, .sl (ms.map rBool.enc)), (7, .own 1 os.length os.length), (8, .junk), (9, .junk), (16, .sl (ms.map rBool.enc)), (17, .int .i64 ms.length), (18, .int .i64 i)] [.arr 1 0 [] true, .arr 1 os.length (os.map rInt.enc) true]
  | [], i, os, hd, hi, ho, hf, hk => by
    have hi2 := drop_nil hd
    have e : i = ms.length := by omega
    refine head_go (Mc.record_Needed_L0.eq_1) ?_
    simp only [marked, List.append_nil] at hf
    subst hf
    rw [trunc_len (n := 2) rfl]
    simpa [e] using hk
  | b :: rest, i, os, hd, hi, ho, hf, hk => by
    obtain ⟨hi2, hx, hxd⟩ := drop_cons hd
    have hi' : ltB i ms.length = true := ltB_iff.2 (by omega)
    have hw := wrap1 (i := i) (by omega)
    have hia := fun h => iadr_sl (h := h) (k := .i64) (rows := ms.map rBool.enc) (i := i) (row := rBool.enc b) (size := 1) (by simp [hx]) rfl
    refine head_go (Mc.record_Needed_L0.eq_1) ?_
    rw [trunc_len (n := 2) rfl]
    cases b with
    | false =>
      have ih := Needed_loop G a0 a1 ms hb fin rest (i + 1) os hxd (by omega) (by omega) (by simpa [marked] using hf) hk
      simp [hi', hia, hw]
      refine head_of ?_
      rw [trunc_len (n := 2) rfl]
      simpa using ih
    | true =>
      have ih := Needed_loop G a0 a1 ms hb fin rest (i + 1) (os ++ [(i : Int)]) hxd (by omega) (by simp; omega) (by rw [← hf]; simp [marked]) hk
      have happ := fun st => op_app1 (G := G) (s := st) (e := rInt.enc) (n := 1) (b := 8) (l := 1) (os := os) (x := (i : Int)) (h := [.arr 1 0 [] true, .arr 1 os.length (os.map rInt.enc) true]) rfl rfl (by decide) (by omega)
      simp at happ
      simp [hi', hia, hw, sizesOk, onesOk, happ]
      refine head_of ?_
      rw [trunc_len (n := 2) rfl]
      simpa using ih

theorem Needed_ok (G : Gam) (hN : G Fn.record_needed = some (.pure F_needed)) : ∀ args r, F_Needed args = some r → wpM G Mc.record_Needed (pureQ Rs.record_Needed r) [] (frInit Ks.record_Needed args) [] := F2_ok fun xs p r h => by
  split at h
  · rename_i ho
    injection h with h; subst h
    rw [wpM_go, eSl_done]
    have hc : ∀ st h, opV G st h (.call Fn.record_needed) (some [.sl (doneRows xs), .str p]) = some (.tup [.sl ((neededE xs p).1.map rBool.enc), .bool (neededE xs p).2], h) := fun st h => op_call hN rfl (F2_use (A := eSl rDone) (B := eStr) (R := eTup2 (eSl rBool) eBool) (x := xs) (y := p) (if_pos ho)) (.inr rfl)
    have hb := ho
    simp only [okR, Bool.and_eq_true, decide_eq_true_eq] at hb
    have hl := needed_len_le xs p
    generalize (neededE xs p).1 = ms at hc hl
    have lp := fun ks Q hk => Needed_loop G (.sl (doneRows xs)) (.str p) ms (by omega) (ks := ks) (Q := Q) (marked 0 ms) ms 0 [] rfl (by omega) (by simp) rfl hk
    simp at lp
    simp [Mc.record_Needed, frInit, Ks.record_Needed, hc]
    refine lp _ _ ?_
    have hro : rowsOf [.arr 1 0 [] true, .arr 1 (marked 0 ms).length ((marked 0 ms).map rInt.enc) true] (.own 1 (marked 0 ms).length (marked 0 ms).length) = some ((marked 0 ms).map rInt.enc) := rows_own rfl (by simp)
    simp [Rs.record_Needed, hro, eSl]
  · cases h

/-! ### record.Affected -/
def F_Affected1 : List AV → Heap → Option AV
  | [.agg a, .ptr l 0], h => match decTouch a, h[l]? with
    | some t, some (.cells [.map m]) => (match h[m]? with
      | some (.map es) => (decM eBool es).map fun M => .bool ((lookM t.path M).getD false)
      | _ => none)
    | _, _ => none
  | _, _ => none
theorem Affected1_ok (G : Gam) : ∀ args h r, F_Affected1 args h = some r → wpM G Mc.record_Affected_1 (lookQ Rs.record_Affected_1 r h) [] (frInit Ks.record_Affected_1 args) h := by
  intro args h r hF
  match args, hF with
  | [.agg a, .ptr l 0], hF =>
    simp only [F_Affected1] at hF
    split at hF
    · rename_i t m h1 h2
      split at hF
      · rename_i es h3
        simp only [Option.map_eq_some_iff] at hF
        obtain ⟨M, h4, rfl⟩ := hF
        have := decTouch_of h1; subst this
        have := decM_ed eBool h4; subst this
        have hl : ∀ x, (h ++ [x])[l]? = some (.cells [.map m]) := fun x => by rw [List.getElem?_append_left (List.getElem?_eq_some_iff.1 h2).1]; exact h2
        have hm : ∀ x, (h ++ [x])[m]? = some (.map (encM eBool M)) := fun x => by rw [List.getElem?_append_left (List.getElem?_eq_some_iff.1 h3).1]; exact h3
        have hlk : ∀ st x, opV G st (h ++ [x]) (.look .s false (.bool false)) (some [.map m, .str t.path]) = some (.bool ((lookM t.path M).getD false), h ++ [x]) := fun st x => by
          rw [op_look (V := eBool) (m := M) (hm x)]; cases lookM t.path M <;> rfl
        rw [wpM_go]
        simp [Mc.record_Affected_1, frInit, Ks.record_Affected_1, Touch.row, hl, hlk, lookQ, Rs.record_Affected_1]
      · cases hF
    · cases hF

def putAll (M : List (Bs × Bool)) : List Bs → List (Bs × Bool)
  | [] => M
  | p :: ps => putAll (putM p true M) ps
def hitBy (M : List (Bs × Bool)) (s : Done) : Bool := s.reads.any fun t => (lookM t.path M).getD false
def affectedL (M : List (Bs × Bool)) (i : Nat) : List Done → List Int
  | [] => []
  | s :: r => if hitBy M s then (i : Int) :: affectedL (putM s.wrote.path true M) (i + 1) r else affectedL M (i + 1) r
def affectedE (xs : List Done) (ps : List Bs) : List Int := if checkE xs = 0 then affectedL (putAll [] ps) 0 xs else []
def F_Affected : List AV → Option AV := F2 (eSl rDone) (eSl rStr) (eSl rInt) fun xs ps => if okR xs = true ∧ ps.length ≤ big then some (affectedE xs ps) else none

theorem Affected_L0 (G : Gam) (a0 : AV) (ps : List Bs) (hb : ps.length ≤ big) {ks : List MK} {Q : MPost} (fin : List (Bs × Bool)) :
    ∀ (rest : List Bs) (i : Nat) (M : List (Bs × Bool)), ps.drop i = rest → i ≤ ps.length → putAll M rest = fin →
    exM G .normal ks Q [(18, .bool false)] [(0, a0), (1, .sl (ps.map rStr.enc)), (4, .own 0 0 0), (5, .ptr 2 0), (7, .junk), (8, .junk), (9, .junk), (10, .junk), (15, .sl (ps.map rStr.enc)), (16, .int .i64 ps.length), (17, .int .i64 ps.length), (24, .junk), (25, .junk), (26, .junk)] [.arr 1 0 [] true, .map (encM eBool fin), .cells [.map 1]] →
    headM G [7] Mc.record_Affected_L0 3 (.blk 0 :: ks) Q [(0, a0), (1, .sl (ps.map rStr.enc)), (4, .own 0 0 0), (5, .ptr 2 0), (7, .junk), (8, .junk), (9, .junk), (10, .junk), (15, .sl (ps.map rStr.enc)), (16, .int .i64 ps.length), (17, .int .i64 i), (24, .junk), (25, .junk), (26, .junk)] [.arr 1 0 [] true, .map (encM eBool M), .cells [.map 1]]
  | [], i, M, hd, hi, hf, hk => by
    have hi2 := drop_nil hd
    have e : i = ps.length := by omega
    refine head_go (Mc.record_Affected_L0.eq_1) ?_
    simp only [putAll] at hf
    subst hf
    rw [trunc_len (n := 3) rfl]
    simpa [e] using hk
  | p :: rest, i, M, hd, hi, hf, hk => by
    obtain ⟨hi2, hx, hxd⟩ := drop_cons hd
    have hi' : ltB i ps.length = true := ltB_iff.2 (by omega)
    have hw := wrap1 (i := i) (by omega)
    have hia := fun h => iadr_sl (h := h) (k := .i64) (rows := ps.map rStr.enc) (i := i) (row := rStr.enc p) (size := 1) (by simp [hx]) rfl
    have hmu : ∀ st, opV G st [.arr 1 0 [] true, .map (encM eBool M), .cells [.map 1]] (.mapup .s) (some [.map 1, .str p, .bool true]) = some (.junk, [.arr 1 0 [] true, .map (encM eBool (putM p true M)), .cells [.map 1]]) := fun st => by
      exact op_mapup (V := eBool) (m := M) (v := true) (h := [.arr 1 0 [] true, .map (encM eBool M), .cells [.map 1]]) rfl rfl rfl rfl
    have ih := Affected_L0 G a0 ps hb fin rest (i + 1) (putM p true M) hxd (by omega) (by simpa [putAll] using hf) hk
    refine head_go (Mc.record_Affected_L0.eq_1) ?_
    rw [trunc_len (n := 3) rfl]
    simp [hi', hia, hw, hmu]
    refine head_of ?_
    rw [trunc_len (n := 3) rfl]
    simpa using ih

theorem Affected_L1 (G G0 : Gam) (hC : G Fn.slices_ContainsFunc___api_Touch_api_Touch_ = some (.gen (lookF (F_ContainsFunc true 2 G0)))) (h0 : G0 Fn.record_Affected_1 = some (.gen (lookF F_Affected1))) (a1 a15 a16 a17 : AV) (hlow : low 4 a1 = true ∧ low 4 a15 = true ∧ low 4 a16 = true ∧ low 4 a17 = true) (xs : List Done) (hok : okR xs = true) {ks : List MK} {Q : MPost} (fin : List Int)
    (hk : ∀ M, exM G .normal ks Q [(27, .bool false)] [(0, .sl (doneRows xs)), (1, a1), (4, .own 0 0 0), (5, .ptr 2 0), (7, .junk), (8, .own 3 fin.length fin.length), (9, .junk), (10, .junk), (15, a15), (16, a16), (17, a17), (24, .sl (doneRows xs)), (25, .int .i64 xs.length), (26, .int .i64 xs.length)] [.arr 1 0 [] true, .map (encM eBool M), .cells [.map 1], .arr 1 fin.length (fin.map rInt.enc) true]) :
    ∀ (rest : List Done) (i : Nat) (M : List (Bs × Bool)) (os : List Int), xs.drop i = rest → i ≤ xs.length → os.length ≤ i → os ++ affectedL M i rest = fin →
    headM G [9, 10] Mc.record_Affected_L1 4 (.blk 2 :: ks) Q [(0, .sl (doneRows xs)), (1, a1), (4, .own 0 0 0), (5, .ptr 2 0), (7, .junk), (8, .own 3 os.length os.length), (9, .junk), (10, .junk), (15, a15), (16, a16), (17, a17), (24, .sl (doneRows xs)), (25, .int .i64 xs.length), (26, .int .i64 i)] [.arr 1 0 [] true, .map (encM eBool M), .cells [.map 1], .arr 1 os.length (os.map rInt.enc) true]
  | [], i, M, os, hd, hi, ho, hf => by
    have hi2 := drop_nil hd
    have e : i = xs.length := by omega
    refine head_go (Mc.record_Affected_L1.eq_1) ?_
    simp only [affectedL, List.append_nil] at hf
    subst hf
    rw [trunc_len (n := 4) rfl]
    simpa [e] using hk M
  | s :: rest, i, M, os, hd, hi, ho, hf => by
    have hok' := hok
    simp only [okR, Bool.and_eq_true, decide_eq_true_eq] at hok'
    obtain ⟨hi2, hx, hxd⟩ := drop_cons hd
    have hi' : ltB i xs.length = true := ltB_iff.2 (by omega)
    have hw := wrap1 (i := i) (by omega)
    have hia := fun h => iadr_sl (h := h) (k := .i64) (doneRows_get hx) s.row_len
    have hrd : s.reads.length ≤ big := by
      have := List.all_eq_true.1 hok'.2 s (List.mem_of_getElem? hx)
      simp only [okD, Bool.and_eq_true, decide_eq_true_eq] at this; exact this.1.1
    have hc := contains_use (h := [.arr 1 0 [] true, .map (encM eBool M), .cells [.map 1], .arr 1 os.length (os.map rInt.enc) true, .cells s.row]) (f := Fn.record_Affected_1) (caps := [.ptr 2 0]) (xs := s.reads) (e := Touch.row) (val := fun t => .agg t.row) (p := fun t => (lookM t.path M).getD false) hC hrd (fun t => ⟨rfl, rfl⟩) (fun t _ => ask_of (by rw [call_gen h0]; simp [lookF, F_Affected1, decM_de]))
    have hmu : ∀ st x, opV G st [.arr 1 0 [] true, .map (encM eBool M), .cells [.map 1], .arr 1 os.length (os.map rInt.enc) true, x] (.mapup .s) (some [.map 1, .str s.wrote.path, .bool true]) = some (.junk, [.arr 1 0 [] true, .map (encM eBool (putM s.wrote.path true M)), .cells [.map 1], .arr 1 os.length (os.map rInt.enc) true, x]) := fun st x => by
      exact op_mapup (V := eBool) (m := M) (v := true) (h := [.arr 1 0 [] true, .map (encM eBool M), .cells [.map 1], .arr 1 os.length (os.map rInt.enc) true, x]) rfl rfl rfl rfl
    have happ := fun st M x => op_app1 (G := G) (s := st) (e := rInt.enc) (n := 1) (b := 8) (l := 3) (os := os) (x := (i : Int)) (h := [.arr 1 0 [] true, .map (encM eBool M), .cells [.map 1], .arr 1 os.length (os.map rInt.enc) true, x]) rfl rfl (by decide) (by omega)
    have hd2 : s.reads.map Touch.row = touchRows s.reads := rfl
    have hhit : s.reads.any (fun t => (lookM t.path M).getD false) = hitBy M s := rfl
    rw [hd2, hhit] at hc
    simp only [Done.row] at hia hc hmu
    simp at happ
    refine head_go (Mc.record_Affected_L1.eq_1) ?_
    rw [trunc_len (n := 4) rfl]
    cases hh : hitBy M s with
    | false =>
      have ih := Affected_L1 G G0 hC h0 a1 a15 a16 a17 hlow xs hok fin hk rest (i + 1) M os hxd (by omega) (by omega) (by simpa [affectedL, hh] using hf)
      rw [hh] at hc
      simp [hi', hia, hw, hc]
      refine head_of ?_
      simpa [trunc, hlow] using ih
    | true =>
      have ih := Affected_L1 G G0 hC h0 a1 a15 a16 a17 hlow xs hok fin hk rest (i + 1) (putM s.wrote.path true M) (os ++ [(i : Int)]) hxd (by omega) (by simp; omega) (by rw [← hf]; simp [affectedL, hh])
      rw [hh] at hc
      simp [hi', hia, hw, hc, hmu, sizesOk, onesOk, happ]
      refine head_of ?_
      simpa [trunc, hlow] using ih

theorem Affected_ok (G G0 : Gam) (hCk : G Fn.record_Check = some (.pure F_Check)) (hC : G Fn.slices_ContainsFunc___api_Touch_api_Touch_ = some (.gen (lookF (F_ContainsFunc true 2 G0)))) (h0 : G0 Fn.record_Affected_1 = some (.gen (lookF F_Affected1))) : ∀ args r, F_Affected args = some r → wpM G Mc.record_Affected (pureQ Rs.record_Affected r) [] (frInit Ks.record_Affected args) [] := F2_ok fun xs ps r h => by
  split at h
  · rename_i ho
    injection h with h; subst h
    rw [wpM_go, eSl_done]
    have hc : ∀ st h, opV G st h (.call Fn.record_Check) (some [.sl (doneRows xs)]) = some (.int .i64 (checkE xs), h) := fun st h => op_call hCk rfl (F1_use (A := eSl rDone) (R := eInt) (x := xs) (if_pos ho.1)) (.inl rfl)
    by_cases c1 : checkE xs = 0
    · have hr : affectedE xs ps = affectedL (putAll [] ps) 0 xs := by simp [affectedE, c1]
      have l0 := fun ks Q hk => Affected_L0 G (.sl (doneRows xs)) ps ho.2 (ks := ks) (Q := Q) (putAll [] ps) ps 0 [] rfl (by omega) rfl hk
      have l1 := fun ks Q hk => Affected_L1 G G0 hC h0 (.sl (ps.map rStr.enc)) (.sl (ps.map rStr.enc)) (.int .i64 ps.length) (.int .i64 ps.length) ⟨rfl, rfl, rfl, rfl⟩ xs ho.1 (ks := ks) (Q := Q) (affectedE xs ps) hk xs 0 (putAll [] ps) [] rfl (by omega) (by simp) (by simp [hr])
      simp at l0 l1
      simp [Mc.record_Affected, frInit, Ks.record_Affected, hc, c1, eSl]
      refine l0 _ _ ?_
      simp
      refine l1 _ _ (fun M => ?_)
      have hro : rowsOf [.arr 1 0 [] true, .map (encM eBool M), .cells [.map 1], .arr 1 (affectedE xs ps).length ((affectedE xs ps).map rInt.enc) true] (.own 3 (affectedE xs ps).length (affectedE xs ps).length) = some ((affectedE xs ps).map rInt.enc) := rows_own rfl (by simp)
      simp [Rs.record_Affected, hro, eSl]
    · have e : eqB (checkE xs) 0 = false := eqB_not.2 c1
      simp [Mc.record_Affected, frInit, Ks.record_Affected, hc, e, affectedE, c1, Rs.record_Affected, eSl, rowsOf]
  · cases h

end Go.Proofs.YtmjdgpiofhildaaGreatDoor

namespace Go.Proofs.YtmjdgpiofhildaaGreatDoor
open Go.RowKit Go.IntWalk

theorem take_succ_of {α : Type} {xs : List α} {i : Nat} {x : α} (h : xs[i]? = some x) : xs.take (i + 1) = xs.take i ++ [x] := by
  rw [List.take_add_one, h]; rfl

/-! ### among -/
def F_among : List AV → Option AV := F3 (eSl rTouch) eNat eStr eInt fun l n p => if n ≤ l.length ∧ l.length ≤ big then some (findP (fun t => t.path == p) 0 (l.take n)) else none
theorem among_loop (G : Gam) (l : List Touch) (n : Nat) (p : Bs) (hn : n ≤ l.length) (hb : l.length ≤ big) : ∀ (rest : List Touch) (i : Nat), (l.take n).drop i = rest →
    headM G [] Mc.licitref17_among_L0 0 [.blk 0, .seq (.seq (.reg [⟨none, some 6, true, .mv, [.c (.int .i64 (-1))]⟩]) .ret)] (pureQ Rs.licitref17_among (.int .i64 (findP (fun t => t.path == p) i rest)))
    [(0, .sl (touchRows l)), (1, .int .i64 n), (2, .str p), (6, .int .i64 0), (7, .int .i64 i)] []
  | [], i, hd => by
    have hi := drop_nil hd
    simp at hi
    have hi' : ltB i n = false := ltB_not.2 (by omega)
    refine head_go (Mc.licitref17_among_L0.eq_1) ?_
    simp [trunc, hi', findP, Rs.licitref17_among]
  | t :: rest, i, hd => by
    obtain ⟨hi, hx, hxd⟩ := drop_cons hd
    simp at hi
    have hi' : ltB i n = true := ltB_iff.2 (by omega)
    have hx' : l[i]? = some t := by rw [List.getElem?_take] at hx; split at hx; exact hx; cases hx
    have hw := wrap1 (i := i) (by omega)
    have ih := among_loop G l n p hn hb rest (i + 1) hxd
    refine head_go (Mc.licitref17_among_L0.eq_1) ?_
    cases hp : (t.path == p) with
    | true => simp [trunc, hi', iadr_sl (touchRows_get hx'), hp, findP, Rs.licitref17_among]
    | false =>
      simp only [findP, hp, Bool.false_eq_true, if_false]
      simp [trunc, hi', iadr_sl (touchRows_get hx'), hp, hw]
      refine head_of ?_
      simpa [trunc] using ih
theorem among_ok (G : Gam) : ∀ args r, F_among args = some r → wpM G Mc.licitref17_among (pureQ Rs.licitref17_among r) [] (frInit Ks.licitref17_among args) [] := F3_ok fun l n p r h => by
  split at h
  · rename_i ho
    injection h with h; subst h
    rw [wpM_go]
    have ih := among_loop G l n p ho.1 ho.2 (l.take n) 0 rfl
    simpa [Mc.licitref17_among, frInit, Ks.licitref17_among, eSl_touch] using ih
  · cases h

/-! ### touched -/
def touchIn (p : Bs) : List Touch → Option Bs
  | [] => none
  | t :: r => if t.path == p then some t.dig else touchIn p r
def touchedL (p : Bs) : List Done → Option Bs
  | [] => none
  | d :: r => match touchIn p d.reads with
    | some x => some x
    | none => if d.wrote.path == p then some d.wrote.dig else touchedL p r
def pairO (o : Option Bs) : Bs × Bool := (o.getD [], o.isSome)
def F_rtouched : List AV → Option AV := F3 (eSl rDone) eNat eStr (eTup2 eStr eBool) fun xs n p => if okR xs = true ∧ n ≤ xs.length then some (pairO (touchedL p (xs.take n))) else none

theorem rtouched_L1 (G : Gam) (xs : List Done) (n : Nat) (p : Bs) (i : Nat) (d : Done) (hx : xs[i]? = some d) (hb : d.reads.length ≤ big) {ks : List MK} (o : Option Bs)
    (hk : touchIn p d.reads = none → exM G .normal ks (pureQ Rs.licitref17_touched (.tup [.str (pairO o).1, .bool (pairO o).2])) [(28, .bool false), (27, .int .i64 d.reads.length), (26, .sl (touchRows d.reads)), (25, .fptr d.row 3), (24, .fptr d.row 0), (23, .int .i64 i), (22, .sl (doneRows xs)), (21, .int .i64 d.reads.length)]
      [(0, .sl (doneRows xs)), (1, .int .i64 n), (2, .str p), (6, .str []), (7, .bool false), (8, .int .i64 i), (9, .int .i64 d.reads.length)] [])
    (hr : ∀ x, touchIn p d.reads = some x → o = some x) :
    ∀ (rest : List Touch) (j : Nat), d.reads.drop j = rest → j ≤ d.reads.length → touchIn p rest = touchIn p d.reads →
    headM G [] Mc.licitref17_touched_L1 0 (.blk 2 :: ks) (pureQ Rs.licitref17_touched (.tup [.str (pairO o).1, .bool (pairO o).2]))
    [(0, .sl (doneRows xs)), (1, .int .i64 n), (2, .str p), (6, .str []), (7, .bool false), (8, .int .i64 i), (9, .int .i64 j)] []
  | [], j, hd, hj, ht => by
    have hi2 := drop_nil hd
    have e : j = d.reads.length := by omega
    have hia := fun h => iadr_sl (h := h) (k := .i64) (doneRows_get hx) d.row_len
    have hk' := hk (by rw [← ht]; rfl)
    simp only [Done.row] at hia hk'
    refine head_go (Mc.licitref17_touched_L1.eq_1) ?_
    simpa [trunc, hia, e] using hk'
  | t :: rest, j, hd, hj, ht => by
    obtain ⟨hi2, hxt, hxd⟩ := drop_cons hd
    have hi' : ltB j d.reads.length = true := ltB_iff.2 (by omega)
    have hw := wrap1 (i := j) (by omega)
    have hia := fun h => iadr_sl (h := h) (k := .i64) (doneRows_get hx) d.row_len
    simp only [Done.row] at hia
    refine head_go (Mc.licitref17_touched_L1.eq_1) ?_
    cases hp : (t.path == p) with
    | true =>
      simp only [touchIn, hp, if_true] at ht
      have := hr _ ht.symm
      subst this
      simp [trunc, hia, hi', iadr_sl (touchRows_get hxt), hp, pairO, Rs.licitref17_touched]
    | false =>
      simp only [touchIn, hp, Bool.false_eq_true, if_false] at ht
      have ih := rtouched_L1 G xs n p i d hx hb o hk hr rest (j + 1) hxd (by omega) ht
      simp [trunc, hia, hi', iadr_sl (touchRows_get hxt), hp, hw]
      refine head_of ?_
      simpa [trunc] using ih

theorem rtouched_L0 (G : Gam) (xs : List Done) (n : Nat) (p : Bs) (hok : okR xs = true) (hn : n ≤ xs.length) (o : Option Bs) : ∀ (rest : List Done) (i : Nat), (xs.take n).drop i = rest → i ≤ n → touchedL p rest = o →
    headM G [9] Mc.licitref17_touched_L0 0 [.blk 0, .seq (.seq (.reg [⟨none, some 6, true, .mv, [.c (.str [])]⟩, ⟨none, some 7, true, .mv, [.c (.bool false)]⟩]) .ret)] (pureQ Rs.licitref17_touched (.tup [.str (pairO o).1, .bool (pairO o).2]))
    [(0, .sl (doneRows xs)), (1, .int .i64 n), (2, .str p), (6, .str []), (7, .bool false), (8, .int .i64 i), (9, .junk)] []
  | [], i, hd, hi, ho => by
    have hi2 := drop_nil hd
    simp at hi2
    have hi' : ltB i n = false := ltB_not.2 (by omega)
    simp only [touchedL] at ho; subst ho
    refine head_go (Mc.licitref17_touched_L0.eq_1) ?_
    simp [trunc, hi', pairO, Rs.licitref17_touched]
  | d :: rest, i, hd, hi, ho => by
    obtain ⟨hi2, hx, hxd⟩ := drop_cons hd
    simp at hi2
    have hi' : ltB i n = true := ltB_iff.2 (by omega)
    have hi3 : ltB i xs.length = true := ltB_iff.2 (by omega)
    have hx' : xs[i]? = some d := by rw [List.getElem?_take] at hx; split at hx; exact hx; cases hx
    have hok' := hok
    simp only [okR, Bool.and_eq_true, decide_eq_true_eq] at hok'
    have hw := wrap1 (i := i) (by omega)
    have hrd : d.reads.length ≤ big := by
      have := List.all_eq_true.1 hok'.2 d (List.mem_of_getElem? hx')
      simp only [okD, Bool.and_eq_true, decide_eq_true_eq] at this; exact this.1.1
    have hia := fun h => iadr_sl (h := h) (k := .i64) (doneRows_get hx') d.row_len
    have l1 := fun ks hk => rtouched_L1 G xs n p i d hx' hrd (ks := ks) o hk (fun x hx => by rw [← ho]; simp [touchedL, hx]) d.reads 0 rfl (by omega) rfl
    simp [Done.row] at hia l1
    refine head_go (Mc.licitref17_touched_L0.eq_1) ?_
    simp [trunc, hi', hi3]
    refine l1 _ (fun hnone => ?_)
    simp only [touchedL, hnone] at ho
    cases hp : (d.wrote.path == p) with
    | true =>
      simp only [hp, if_true] at ho; subst ho
      simp [hia, hp, pairO, Rs.licitref17_touched]
    | false =>
      simp only [hp, Bool.false_eq_true, if_false] at ho
      have ih := rtouched_L0 G xs n p hok hn o rest (i + 1) hxd (by omega) ho
      simp [hia, hp, hw]
      refine head_of ?_
      simpa [trunc] using ih

theorem rtouched_ok (G : Gam) : ∀ args r, F_rtouched args = some r → wpM G Mc.licitref17_touched (pureQ Rs.licitref17_touched r) [] (frInit Ks.licitref17_touched args) [] := F3_ok fun xs n p r h => by
  split at h
  · rename_i ho
    injection h with h; subst h
    rw [wpM_go, eSl_done]
    have ih := rtouched_L0 G xs n p ho.1 ho.2 _ (xs.take n) 0 rfl (by omega) rfl
    simpa [Mc.licitref17_touched, frInit, Ks.licitref17_touched] using ih
  · cases h

/-! ### wrote -/
def wroteE (xs : List Done) (p : Bs) : Int := findP (fun d => d.wrote.path == p) 0 xs
def F_wrote : List AV → Option AV := F2 (eSl rDone) eStr eInt fun xs p => if xs.length ≤ big then some (wroteE xs p) else none
theorem wrote_loop (G : Gam) (l : List Done) (p : Bs) (hb : l.length ≤ big) : ∀ (rest : List Done) (i : Nat), l.drop i = rest →
    headM G [] Mc.licitref17_wrote_L0 0 [.blk 0, .seq (.seq (.reg [⟨none, some 4, true, .mv, [.c (.int .i64 (-1))]⟩]) .ret)] (pureQ Rs.licitref17_wrote (.int .i64 (findP (fun t => t.wrote.path == p) i rest)))
    [(0, .sl (doneRows l)), (1, .str p), (4, .int .i64 0), (5, .int .i64 i)] []
  | [], i, hd => by
    have hi := drop_nil hd
    have hi' : ltB i l.length = false := ltB_not.2 (by omega)
    refine head_go (Mc.licitref17_wrote_L0.eq_1) ?_
    simp [trunc, hi', findP, Rs.licitref17_wrote]
  | t :: rest, i, hd => by
    obtain ⟨hi, hx, hxd⟩ := drop_cons hd
    have hi' : ltB i l.length = true := ltB_iff.2 (by omega)
    have hw := wrap1 (i := i) (by omega)
    have ih := wrote_loop G l p hb rest (i + 1) hxd
    have hia := fun h => iadr_sl (h := h) (k := .i64) (doneRows_get hx) t.row_len
    simp only [Done.row] at hia
    refine head_go (Mc.licitref17_wrote_L0.eq_1) ?_
    cases hp : (t.wrote.path == p) with
    | true => simp [trunc, hi', hia, hp, findP, Rs.licitref17_wrote]
    | false =>
      simp only [findP, hp, Bool.false_eq_true, if_false]
      simp [trunc, hi', hia, hp, hw]
      refine head_of ?_
      simpa [trunc] using ih
theorem wrote_ok (G : Gam) : ∀ args r, F_wrote args = some r → wpM G Mc.licitref17_wrote (pureQ Rs.licitref17_wrote r) [] (frInit Ks.licitref17_wrote args) [] := F2_ok fun l p r h => by
  split at h
  · rename_i ho
    injection h with h; subst h
    rw [wpM_go]
    have ih := wrote_loop G l p ho l 0 rfl
    simpa [Mc.licitref17_wrote, frInit, Ks.licitref17_wrote, eSl_done, wroteE] using ih
  · cases h

end Go.Proofs.YtmjdgpiofhildaaGreatDoor

namespace Go.Proofs.YtmjdgpiofhildaaGreatDoor
open Go.RowKit Go.IntWalk

def refFiles (before : Bs → Option Bs) (s : Done) : Nat → List Touch → Int
  | _, [] => 0
  | k, t :: rest =>
    if pathOK t.path then
      (if t.dig.length = 32 then
        (if (!ltB (findP (fun u => u.path == t.path) 0 (s.reads.take k)) 0 || eqB k s.reads.length && (before t.path).isSome) = true then 6
         else if (before t.path).any (fun d => d != t.dig) then 9
         else refFiles before s (k + 1) rest)
       else 17)
    else 2
def stepE (xs : List Done) (i : Nat) (s : Done) : Int :=
  if rangeBad s then 3 else if (if i = 0 then none else xs[i - 1]?).any (orderBad · s) then 5 else if countBad s then 1
  else refFiles (fun p => touchedL p (xs.take i)) s 0 (s.reads ++ [s.wrote])
def F_step : List AV → Option AV := F2 (eSl rDone) eNat eInt fun xs i => if okR xs then (xs[i]?).map (stepE xs i) else none

theorem step_loop (G : Gam) (hP : G Fn.licitref16_Path = some (.pure F_refPath)) (hT : G Fn.licitref17_touched = some (.pure F_rtouched)) (hA : G Fn.licitref17_among = some (.pure F_among)) (xs : List Done) (i : Nat) (s : Done) (hok : okR xs = true) (hi : i ≤ xs.length) (hs : okD s = true) (r : Int) :
    ∀ (rest : List Touch) (k : Nat), (s.reads ++ [s.wrote]).drop k = rest → k ≤ s.reads.length + 1 → refFiles (fun p => touchedL p (xs.take i)) s k rest = r →
    headM G [7, 8, 9] Mc.licitref17_step_L0 1 [.blk 0, .seq (.seq (.reg [⟨none, some 4, true, .mv, [.c (.int .i64 0)]⟩]) .ret)] (pureQ Rs.licitref17_step (.int .i64 r))
    [(0, .sl (doneRows xs)), (1, .int .i64 i), (4, .int .i64 0), (5, .ptr 0 0), (6, .int .i64 k), (7, .junk), (8, .junk), (9, .junk)] [.cells s.row]
  | [], k, hd, hk, hr => by
    have hi2 := drop_nil hd
    simp at hi2
    have hle : ltB s.reads.length k = true := ltB_iff.2 (by omega)
    simp only [refFiles] at hr
    subst hr
    refine head_go (Mc.licitref17_step_L0.eq_1) ?_
    simp [trunc, Done.row, hle, Rs.licitref17_step]
  | t :: rest, k, hd, hk, hr => by
    obtain ⟨hi2, hx, hxd⟩ := drop_cons hd
    simp at hi2
    have hs' := hs
    simp only [okD, Bool.and_eq_true, decide_eq_true_eq] at hs'
    have hle : ltB s.reads.length k = false := ltB_not.2 (by omega)
    have hw : IntKind.i64.wrap ((k : Int) + 1) = ((k + 1 : Nat) : Int) := by have := hs'.1.1; unfold big at this; rw [i64_in _ (by omega)]; rfl
    have hot : okT t = true := by
      rcases Nat.lt_or_ge k s.reads.length with h | h
      · rw [List.getElem?_append_left h] at hx; exact List.all_eq_true.1 hs'.1.2 t (List.mem_of_getElem? hx)
      · rw [List.getElem?_append_right h, show k - s.reads.length = 0 by omega] at hx
        simp at hx; subst hx; exact hs'.2
    have hpl : t.path.length ≤ big := by have : t.path.length < 4294967281 := by simpa [okT] using hot
                                         unfold big; omega
    have cP : ∀ st h, opV G st h (.call Fn.licitref16_Path) (some [.str t.path]) = some (.bool (pathOK t.path), h) := fun st h => op_call hP rfl (F1_use (A := eStr) (R := eBool) (x := t.path) (if_pos hpl)) (.inl rfl)
    have cT : ∀ st h, opV G st h (.call Fn.licitref17_touched) (some [.sl (doneRows xs), .int .i64 i, .str t.path]) = some (.tup [.str ((touchedL t.path (xs.take i)).getD []), .bool (touchedL t.path (xs.take i)).isSome], h) := fun st h => op_call hT rfl (F3_use (A := eSl rDone) (B := eNat) (C := eStr) (R := eTup2 eStr eBool) (x := xs) (y := i) (z := t.path) (r := pairO (touchedL t.path (xs.take i))) (if_pos ⟨hok, hi⟩)) (.inl rfl)
    have cA : ∀ st h, opV G st h (.call Fn.licitref17_among) (some [.sl (touchRows s.reads), .int .i64 k, .str t.path]) = some (.int .i64 (findP (fun u => u.path == t.path) 0 (s.reads.take k)), h) := fun st h => op_call hA rfl (F3_use (A := eSl rTouch) (B := eNat) (C := eStr) (R := eInt) (x := s.reads) (y := k) (z := t.path) (if_pos ⟨by omega, hs'.1.1⟩)) (.inl rfl)
    simp only [refFiles] at hr
    obtain ⟨o, ho⟩ : ∃ o, touchedL t.path (xs.take i) = o := ⟨_, rfl⟩
    simp only [ho] at cT hr
    obtain ⟨f, hf⟩ : ∃ f, findP (fun u : Touch => u.path == t.path) 0 (s.reads.take k) = f := ⟨_, rfl⟩
    simp only [hf] at cA hr
    have hcase : (ltB k s.reads.length = true ∧ (∀ h, iadrAV 2 h (.sl (touchRows s.reads)) (.int .i64 (k : Nat)) = some (.fptr t.row 0))) ∨ (ltB k s.reads.length = false ∧ t = s.wrote) := by
      rcases Nat.lt_or_ge k s.reads.length with h | h
      · rw [List.getElem?_append_left h] at hx
        exact .inl ⟨ltB_iff.2 (by omega), fun h => iadr_sl (touchRows_get hx) rfl⟩
      · rw [List.getElem?_append_right h, show k - s.reads.length = 0 by omega] at hx
        simp at hx; exact .inr ⟨ltB_not.2 (by omega), hx.symm⟩
    have ih := fun h => step_loop G hP hT hA xs i s hok hi hs r rest (k + 1) hxd (by omega) h
    refine head_go (Mc.licitref17_step_L0.eq_1) ?_
    rcases hcase with ⟨c0, hia⟩ | ⟨c0, hia⟩
    · simp only [Touch.row] at hia
      cases c1 : pathOK t.path with
      | false =>
        simp only [c1, Bool.false_eq_true, if_false] at hr; subst hr
        simp [trunc, Done.row, hle, c0, hia, cP, c1, Rs.licitref17_step]
      | true =>
        simp only [c1, if_true] at hr
        by_cases c2 : t.dig.length = 32
        · have e2 : eqB (t.dig.length : Int) 32 = true := eqB_iff.2 (by omega)
          simp only [c2, if_true] at hr
          cases c3 : (!ltB f 0 || eqB k s.reads.length && o.isSome) with
          | true =>
            simp only [c3, if_true] at hr; subst hr
            cases d1 : ltB f 0 with
            | false => simp [trunc, Done.row, hle, c0, hia, cP, c1, e2, cT, cA, d1, Rs.licitref17_step]
            | true =>
              simp [d1] at c3
              simp [trunc, Done.row, hle, c0, hia, cP, c1, e2, cT, cA, d1, c3.1, c3.2, Rs.licitref17_step]
          | false =>
            simp only [c3, Bool.false_eq_true, if_false] at hr
            simp at c3
            have d2 : (On (eqB k s.reads.length) → ¬ On o.isSome) := by
              intro h1 h2; have := c3.2 h1; simp [this, On] at h2
            cases o with
            | none =>
              simp at hr
              have ih := ih hr
              cases d3 : eqB k s.reads.length <;>
              · simp [trunc, Done.row, hle, c0, hia, cP, c1, e2, cT, cA, c3.1, d3, hw]
                refine head_of ?_
                simpa [trunc, Done.row] using ih
            | some d =>
              have d3 : eqB k s.reads.length = false := by simpa using c3.2
              by_cases c4 : d = t.dig
              · simp [c4] at hr
                have ih := ih hr
                simp [trunc, Done.row, hle, c0, hia, cP, c1, e2, cT, cA, c3.1, d3, c4, hw]
                refine head_of ?_
                simpa [trunc, Done.row] using ih
              · simp [c4] at hr; subst hr
                have c4' : (d == t.dig) = false := by simp [c4]
                simp [trunc, Done.row, hle, c0, hia, cP, c1, e2, cT, cA, c3.1, d3, c4', Rs.licitref17_step]
        · have e2 : eqB (t.dig.length : Int) 32 = false := eqB_not.2 (by omega)
          simp only [c2, if_false] at hr; subst hr
          simp [trunc, Done.row, hle, c0, hia, cP, c1, e2, Rs.licitref17_step]
    · subst hia
      cases c1 : pathOK s.wrote.path with
      | false =>
        simp only [c1, Bool.false_eq_true, if_false] at hr; subst hr
        simp [trunc, Done.row, hle, c0, cP, c1, Rs.licitref17_step]
      | true =>
        simp only [c1, if_true] at hr
        by_cases c2 : s.wrote.dig.length = 32
        · have e2 : eqB (s.wrote.dig.length : Int) 32 = true := eqB_iff.2 (by omega)
          simp only [c2, if_true] at hr
          cases c3 : (!ltB f 0 || eqB k s.reads.length && o.isSome) with
          | true =>
            simp only [c3, if_true] at hr; subst hr
            cases d1 : ltB f 0 with
            | false => simp [trunc, Done.row, hle, c0, cP, c1, e2, cT, cA, d1, Rs.licitref17_step]
            | true =>
              simp [d1] at c3
              simp [trunc, Done.row, hle, c0, cP, c1, e2, cT, cA, d1, c3.1, c3.2, Rs.licitref17_step]
          | false =>
            simp only [c3, Bool.false_eq_true, if_false] at hr
            simp at c3
            cases o with
            | none =>
              simp at hr
              have ih := ih hr
              cases d3 : eqB k s.reads.length <;>
              · simp [trunc, Done.row, hle, c0, cP, c1, e2, cT, cA, c3.1, d3, hw]
                refine head_of ?_
                simpa [trunc, Done.row] using ih
            | some d =>
              have d3 : eqB k s.reads.length = false := by simpa using c3.2
              by_cases c4 : d = s.wrote.dig
              · simp [c4] at hr
                have ih := ih hr
                simp [trunc, Done.row, hle, c0, cP, c1, e2, cT, cA, c3.1, d3, c4, hw]
                refine head_of ?_
                simpa [trunc, Done.row] using ih
              · simp [c4] at hr; subst hr
                have c4' : (d == s.wrote.dig) = false := by simp [c4]
                simp [trunc, Done.row, hle, c0, cP, c1, e2, cT, cA, c3.1, d3, c4', Rs.licitref17_step]
        · have e2 : eqB (s.wrote.dig.length : Int) 32 = false := eqB_not.2 (by omega)
          simp only [c2, if_false] at hr; subst hr
          simp [trunc, Done.row, hle, c0, cP, c1, e2, Rs.licitref17_step]

attribute [local congr] ite_congr in
theorem step_ok (G : Gam) (hP : G Fn.licitref16_Path = some (.pure F_refPath)) (hT : G Fn.licitref17_touched = some (.pure F_rtouched)) (hA : G Fn.licitref17_among = some (.pure F_among)) : ∀ args r, F_step args = some r → wpM G Mc.licitref17_step (pureQ Rs.licitref17_step r) [] (frInit Ks.licitref17_step args) [] := F2_ok fun xs i r h => by
  split at h
  · rename_i hok
    simp only [Option.map_eq_some_iff] at h
    obtain ⟨s, hx, hr⟩ := h
    have hok' := hok
    simp only [okR, Bool.and_eq_true, decide_eq_true_eq] at hok'
    have hil : i < xs.length := (List.getElem?_eq_some_iff.1 hx).1
    have hs : okD s = true := List.all_eq_true.1 hok'.2 s (List.mem_of_getElem? hx)
    have hia := fun h => iadr_sl (h := h) (k := .i64) (doneRows_get hx) s.row_len
    have lp := fun r hr => step_loop G hP hT hA xs i s hok (by omega) hs r (s.reads ++ [s.wrote]) 0 rfl (by omega) hr
    simp [Done.row] at hia lp
    rw [wpM_go, eSl_done]
    have facts : (ltB 0 i = false ∧ (if i = 0 then none else xs[i - 1]?) = none) ∨ ∃ j p, ltB 0 i = true ∧ IntKind.i64.wrap ((i : Int) - 1) = (j : Nat) ∧ (∀ h, iadrAV 6 h (.sl (doneRows xs)) (.int .i64 (j : Nat)) = some (.fptr p.row 0)) ∧ (if i = 0 then none else xs[i - 1]?) = some p := by
      cases i with
      | zero => left; exact ⟨rfl, rfl⟩
      | succ j =>
        right
        refine ⟨j, xs[j]'(by omega), ltB_iff.2 (by omega), ?_, fun h => iadr_sl (doneRows_get (by simp)) rfl, by simp⟩
        unfold big at hok'; rw [i64_in _ (by omega)]; omega
    unfold stepE at hr
    cases c1 : rangeBad s with
    | true =>
      simp only [c1, if_true] at hr; subst hr
      unfold rangeBad at c1
      simp +contextual [Mc.licitref17_step, frInit, Ks.licitref17_step, hia]
      rw [c1]
      simp [Rs.licitref17_step]
    | false =>
      simp only [c1, Bool.false_eq_true, if_false] at hr
      unfold rangeBad at c1
      rcases facts with ⟨f1, f2⟩ | ⟨j, p, f1, f2, f3, f4⟩
      · rw [f2] at hr
        simp only [Option.any_none, Bool.false_eq_true, if_false] at hr
        cases c2 : countBad s with
        | true =>
          simp only [c2, if_true] at hr; subst hr
          unfold countBad at c2
          simp +contextual [Mc.licitref17_step, frInit, Ks.licitref17_step, hia]
          rw [c1]
          simp +contextual [f1]
          rw [c2]
          simp [Rs.licitref17_step]
        | false =>
          simp only [c2, Bool.false_eq_true, if_false] at hr
          unfold countBad at c2
          simp +contextual [Mc.licitref17_step, frInit, Ks.licitref17_step, hia]
          rw [c1]
          simp +contextual [f1]
          rw [c2]
          simp
          rw [← hr]; exact lp
      · rw [f4] at hr
        simp only [Option.any_some] at hr
        simp only [Done.row] at f3
        cases c0 : orderBad p s with
        | true =>
          simp only [c0, if_true] at hr; subst hr
          unfold orderBad at c0
          simp +contextual [Mc.licitref17_step, frInit, Ks.licitref17_step, hia]
          rw [c1]
          simp +contextual [f1, f2, f3]
          rw [c0]
          simp [Rs.licitref17_step]
        | false =>
          simp only [c0, Bool.false_eq_true, if_false] at hr
          unfold orderBad at c0
          cases c2 : countBad s with
          | true =>
            simp only [c2, if_true] at hr; subst hr
            unfold countBad at c2
            simp +contextual [Mc.licitref17_step, frInit, Ks.licitref17_step, hia]
            rw [c1]
            simp +contextual [f1, f2, f3]
            rw [c0]
            simp +contextual
            rw [c2]
            simp [Rs.licitref17_step]
          | false =>
            simp only [c2, Bool.false_eq_true, if_false] at hr
            unfold countBad at c2
            simp +contextual [Mc.licitref17_step, frInit, Ks.licitref17_step, hia]
            rw [c1]
            simp +contextual [f1, f2, f3]
            rw [c0]
            simp +contextual
            rw [c2]
            simp
            rw [← hr]; exact lp
  · cases h

/-! ### Check -/
def refFrom (xs : List Done) (i : Nat) : List Done → Int
  | [] => 0
  | s :: rest => if stepE xs i s = 0 then refFrom xs (i + 1) rest else stepE xs i s
def refCheckE (xs : List Done) : Int := if 1024 < xs.length then 10 else refFrom xs 0 xs
def F_refCheck : List AV → Option AV := F1 (eSl rDone) eInt fun r => if okR r then some (refCheckE r) else none
theorem refCheck_loop (G : Gam) (hS : G Fn.licitref17_step = some (.pure F_step)) (xs : List Done) (hok : okR xs = true) (r : Int) : ∀ (rest : List Done) (i : Nat), xs.drop i = rest → refFrom xs i rest = r →
    headM G [4] Mc.licitref17_Check_L0 0 [.blk 0, .seq (.seq (.reg [⟨none, some 2, true, .mv, [.c (.int .i64 0)]⟩]) .ret)] (pureQ Rs.licitref17_Check (.int .i64 r))
    [(0, .sl (doneRows xs)), (2, .int .i64 0), (3, .int .i64 i), (4, .junk)] []
  | [], i, hd, hr => by
    have hi := drop_nil hd
    have hi' : ltB i xs.length = false := ltB_not.2 (by omega)
    simp only [refFrom] at hr; subst hr
    refine head_go (Mc.licitref17_Check_L0.eq_1) ?_
    simp [trunc, hi', Rs.licitref17_Check]
  | s :: rest, i, hd, hr => by
    obtain ⟨hi, hx, hxd⟩ := drop_cons hd
    have hok' := hok
    simp only [okR, Bool.and_eq_true, decide_eq_true_eq] at hok'
    have hi' : ltB i xs.length = true := ltB_iff.2 (by omega)
    have hw := wrap1 (i := i) (by omega)
    have hc : ∀ st h, opV G st h (.call Fn.licitref17_step) (some [.sl (doneRows xs), .int .i64 i]) = some (.int .i64 (stepE xs i s), h) := fun st h => op_call hS rfl (F2_use (A := eSl rDone) (B := eNat) (R := eInt) (x := xs) (y := i) (by simp [hok, hx])) (.inl rfl)
    simp only [refFrom] at hr
    refine head_go (Mc.licitref17_Check_L0.eq_1) ?_
    by_cases c : stepE xs i s = 0
    · simp only [c, if_true] at hr
      have ih := refCheck_loop G hS xs hok r rest (i + 1) hxd hr
      simp [trunc, hi', hc, c, hw]
      refine head_of ?_
      simpa [trunc] using ih
    · have e : eqB (stepE xs i s) 0 = false := eqB_not.2 c
      simp only [c, if_false] at hr; subst hr
      simp [trunc, hi', hc, e, Rs.licitref17_Check]
theorem refCheck_ok (G : Gam) (hS : G Fn.licitref17_step = some (.pure F_step)) : ∀ args r, F_refCheck args = some r → wpM G Mc.licitref17_Check (pureQ Rs.licitref17_Check r) [] (frInit Ks.licitref17_Check args) [] := F1_ok fun xs r h => by
  split at h
  · rename_i ho
    injection h with h; subst h
    rw [wpM_go, eSl_done]
    cases c1 : ltB 1024 xs.length with
    | true =>
      have := ltB_iff.1 c1
      have e : 1024 < xs.length := by omega
      simp [Mc.licitref17_Check, frInit, Ks.licitref17_Check, Rs.licitref17_Check, c1, refCheckE, e]
    | false =>
      have := ltB_not.1 c1
      have e : ¬ 1024 < xs.length := by omega
      have ih := refCheck_loop G hS xs ho _ xs 0 rfl rfl
      simpa [Mc.licitref17_Check, frInit, Ks.licitref17_Check, c1, refCheckE, e] using ih
  · cases h

def refWriterE (xs : List Done) (p : Bs) : Int := if refCheckE xs = 0 then wroteE xs p else -1
def F_refWriter : List AV → Option AV := F2 (eSl rDone) eStr eInt fun xs p => if okR xs then some (refWriterE xs p) else none
theorem refWriter_ok (G : Gam) (hC : G Fn.licitref17_Check = some (.pure F_refCheck)) (hW : G Fn.licitref17_wrote = some (.pure F_wrote)) : ∀ args r, F_refWriter args = some r → wpM G Mc.licitref17_Writer (pureQ Rs.licitref17_Writer r) [] (frInit Ks.licitref17_Writer args) [] := F2_ok fun xs p r h => by
  split at h
  · rename_i ho
    injection h with h; subst h
    rw [wpM_go, eSl_done]
    have hb : xs.length ≤ big := by simp only [okR, Bool.and_eq_true, decide_eq_true_eq] at ho; exact ho.1
    have hc : ∀ st h, opV G st h (.call Fn.licitref17_Check) (some [.sl (doneRows xs)]) = some (.int .i64 (refCheckE xs), h) := fun st h => op_call hC rfl (F1_use (A := eSl rDone) (R := eInt) (x := xs) (if_pos ho)) (.inl rfl)
    have hw : ∀ st h, opV G st h (.call Fn.licitref17_wrote) (some [.sl (doneRows xs), .str p]) = some (.int .i64 (wroteE xs p), h) := fun st h => op_call hW rfl (F2_use (A := eSl rDone) (B := eStr) (R := eInt) (x := xs) (y := p) (if_pos hb)) (.inl rfl)
    by_cases c : refCheckE xs = 0
    · simp [Mc.licitref17_Writer, frInit, Ks.licitref17_Writer, hc, c, hw, refWriterE, Rs.licitref17_Writer]
    · have e : eqB (refCheckE xs) 0 = false := eqB_not.2 c
      simp [Mc.licitref17_Writer, frInit, Ks.licitref17_Writer, hc, e, c, refWriterE, Rs.licitref17_Writer]
  · cases h

end Go.Proofs.YtmjdgpiofhildaaGreatDoor
