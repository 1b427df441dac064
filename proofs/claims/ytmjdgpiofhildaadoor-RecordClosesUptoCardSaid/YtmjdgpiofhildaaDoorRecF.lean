/- record.Needed, Affected. -/
import Derived.Test.YtmjdgpiofhildaaDoorRecE
namespace Go.Proofs.YtmjdgpiofhildaaDoor
open Go.RowKit Go.IntWalk

@[simp] theorem rInt_enc (n : Int) : rInt.enc n = [.int .i64 n] := rfl
@[simp] theorem rBool_enc (b : Bool) : rBool.enc b = [.bool b] := rfl

/-- The places at which something is marked. -/
def marked (i : Nat) : List Bool → List Int
  | [] => []
  | b :: r => if b then (i : Int) :: marked (i + 1) r else marked (i + 1) r

theorem needed_len_le (xs : List Done) (p : Bs) : (neededE xs p).1.length ≤ xs.length := by
  unfold neededE
  simp only
  split
  · simp
  · simp [markDown_len]

def F_Needed : List AV → Option AV := F2 (eSl rDone) eStr (eSl rInt) fun xs p => if okR xs then some (marked 0 (neededE xs p).1) else none

theorem Needed_loop (G : Gam) (a0 a1 : AV) (ms : List Bool) (hb : ms.length ≤ big) {ks : List MK} {Q : MPost} (fin : List Int) :
    ∀ (rest : List Bool) (i : Nat) (os : List Int), ms.drop i = rest → i ≤ ms.length → os.length ≤ i → os ++ marked i rest = fin →
    exM G .normal ks Q [(19, .bool false)] [(0, a0), (1, a1), (4, .own 0 0 0), (5, .sl (ms.map rBool.enc)), (7, .own 1 fin.length fin.length), (8, .junk), (9, .junk), (16, .sl (ms.map rBool.enc)), (17, .int .i64 ms.length), (18, .int .i64 ms.length)] [.arr 1 0 [] true, .arr 1 fin.length (fin.map rInt.enc) true] →
    headM G [8, 9] Mc.record_Needed_L0 2 (.blk 0 :: ks) Q [(0, a0), (1, a1), (4, .own 0 0 0), (5, .sl (ms.map rBool.enc)), (7, .own 1 os.length os.length), (8, .junk), (9, .junk), (16, .sl (ms.map rBool.enc)), (17, .int .i64 ms.length), (18, .int .i64 i)] [.arr 1 0 [] true, .arr 1 os.length (os.map rInt.enc) true]
  | [], i, os, hd, hi, ho, hf, hk => by
    have hi2 := drop_nil hd
    have e : i = ms.length := by omega
    refine head_go (Mc.record_Needed_L0.eq_1) ?_
    simp only [marked, List.append_nil] at hf
    subst hf
    rw [trunc_len (n := 2) rfl]
    simpa [e] using hk
  | b :: rest, i, os, hd, hi, ho, hf, hk => by
    obtain ⟨hi2, hx, hxd⟩ := drop_cons hd
    have hi' : ltB i ms.length = true := ltB_iff.2 (by omega)
    have hw := wrap1 (i := i) (by omega)
    have hia := fun h => iadr_sl (h := h) (k := .i64) (rows := ms.map rBool.enc) (i := i) (row := rBool.enc b) (size := 1) (by simp [hx]) rfl
    refine head_go (Mc.record_Needed_L0.eq_1) ?_
    rw [trunc_len (n := 2) rfl]
    cases b with
    | false =>
      have ih := Needed_loop G a0 a1 ms hb fin rest (i + 1) os hxd (by omega) (by omega) (by simpa [marked] using hf) hk
      simp [hi', hia, hw]
      refine head_of ?_
      rw [trunc_len (n := 2) rfl]
      simpa using ih
    | true =>
      have ih := Needed_loop G a0 a1 ms hb fin rest (i + 1) (os ++ [(i : Int)]) hxd (by omega) (by simp; omega) (by rw [← hf]; simp [marked]) hk
      have happ := fun st => op_app1 (G := G) (s := st) (e := rInt.enc) (n := 1) (b := 8) (l := 1) (os := os) (x := (i : Int)) (h := [.arr 1 0 [] true, .arr 1 os.length (os.map rInt.enc) true]) rfl rfl (by decide) (by omega)
      simp at happ
      simp [hi', hia, hw, sizesOk, onesOk, happ]
      refine head_of ?_
      rw [trunc_len (n := 2) rfl]
      simpa using ih

theorem Needed_ok (G : Gam) (hN : G Fn.record_needed = some (.pure F_needed)) : ∀ args r, F_Needed args = some r → wpM G Mc.record_Needed (pureQ Rs.record_Needed r) [] (frInit Ks.record_Needed args) [] := F2_ok fun xs p r h => by
  split at h
  · rename_i ho
    injection h with h; subst h
    rw [wpM_go, eSl_done]
    have hc : ∀ st h, opV G st h (.call Fn.record_needed) (some [.sl (doneRows xs), .str p]) = some (.tup [.sl ((neededE xs p).1.map rBool.enc), .bool (neededE xs p).2], h) := fun st h => op_call hN rfl (F2_use (A := eSl rDone) (B := eStr) (R := eTup2 (eSl rBool) eBool) (x := xs) (y := p) (if_pos ho)) (.inr rfl)
    have hb := ho
    simp only [okR, Bool.and_eq_true, decide_eq_true_eq] at hb
    have hl := needed_len_le xs p
    generalize (neededE xs p).1 = ms at hc hl
    have lp := fun ks Q hk => Needed_loop G (.sl (doneRows xs)) (.str p) ms (by omega) (ks := ks) (Q := Q) (marked 0 ms) ms 0 [] rfl (by omega) (by simp) rfl hk
    simp at lp
    simp [Mc.record_Needed, frInit, Ks.record_Needed, hc]
    refine lp _ _ ?_
    have hro : rowsOf [.arr 1 0 [] true, .arr 1 (marked 0 ms).length ((marked 0 ms).map rInt.enc) true] (.own 1 (marked 0 ms).length (marked 0 ms).length) = some ((marked 0 ms).map rInt.enc) := rows_own rfl (by simp)
    simp [Rs.record_Needed, hro, eSl]
  · cases h

/-! ### record.Affected -/
def F_Affected1 : List AV → Heap → Option AV
  | [.agg a, .ptr l 0], h => match decTouch a, h[l]? with
    | some t, some (.cells [.map m]) => (match h[m]? with
      | some (.map es) => (decM eBool es).map fun M => .bool ((lookM t.path M).getD false)
      | _ => none)
    | _, _ => none
  | _, _ => none
theorem Affected1_ok (G : Gam) : ∀ args h r, F_Affected1 args h = some r → wpM G Mc.record_Affected_1 (lookQ Rs.record_Affected_1 r h) [] (frInit Ks.record_Affected_1 args) h := by
  intro args h r hF
  match args, hF with
  | [.agg a, .ptr l 0], hF =>
    simp only [F_Affected1] at hF
    split at hF
    · rename_i t m h1 h2
      split at hF
      · rename_i es h3
        simp only [Option.map_eq_some_iff] at hF
        obtain ⟨M, h4, rfl⟩ := hF
        have := decTouch_of h1; subst this
        have := decM_ed eBool h4; subst this
        have hl : ∀ x, (h ++ [x])[l]? = some (.cells [.map m]) := fun x => by rw [List.getElem?_append_left (List.getElem?_eq_some_iff.1 h2).1]; exact h2
        have hm : ∀ x, (h ++ [x])[m]? = some (.map (encM eBool M)) := fun x => by rw [List.getElem?_append_left (List.getElem?_eq_some_iff.1 h3).1]; exact h3
        have hlk : ∀ st x, opV G st (h ++ [x]) (.look .s false (.bool false)) (some [.map m, .str t.path]) = some (.bool ((lookM t.path M).getD false), h ++ [x]) := fun st x => by
          rw [op_look (V := eBool) (m := M) (hm x)]; cases lookM t.path M <;> rfl
        rw [wpM_go]
        simp [Mc.record_Affected_1, frInit, Ks.record_Affected_1, Touch.row, hl, hlk, lookQ, Rs.record_Affected_1]
      · cases hF
    · cases hF

def putAll (M : List (Bs × Bool)) : List Bs → List (Bs × Bool)
  | [] => M
  | p :: ps => putAll (putM p true M) ps
def hitBy (M : List (Bs × Bool)) (s : Done) : Bool := s.reads.any fun t => (lookM t.path M).getD false
def affectedL (M : List (Bs × Bool)) (i : Nat) : List Done → List Int
  | [] => []
  | s :: r => if hitBy M s then (i : Int) :: affectedL (putM s.wrote.path true M) (i + 1) r else affectedL M (i + 1) r
def affectedE (xs : List Done) (ps : List Bs) : List Int := if checkE xs = 0 then affectedL (putAll [] ps) 0 xs else []
def F_Affected : List AV → Option AV := F2 (eSl rDone) (eSl rStr) (eSl rInt) fun xs ps => if okR xs = true ∧ ps.length ≤ big then some (affectedE xs ps) else none

theorem Affected_L0 (G : Gam) (a0 : AV) (ps : List Bs) (hb : ps.length ≤ big) {ks : List MK} {Q : MPost} (fin : List (Bs × Bool)) :
    ∀ (rest : List Bs) (i : Nat) (M : List (Bs × Bool)), ps.drop i = rest → i ≤ ps.length → putAll M rest = fin →
    exM G .normal ks Q [(18, .bool false)] [(0, a0), (1, .sl (ps.map rStr.enc)), (4, .own 0 0 0), (5, .ptr 2 0), (7, .junk), (8, .junk), (9, .junk), (10, .junk), (15, .sl (ps.map rStr.enc)), (16, .int .i64 ps.length), (17, .int .i64 ps.length), (24, .junk), (25, .junk), (26, .junk)] [.arr 1 0 [] true, .map (encM eBool fin), .cells [.map 1]] →
    headM G [7] Mc.record_Affected_L0 3 (.blk 0 :: ks) Q [(0, a0), (1, .sl (ps.map rStr.enc)), (4, .own 0 0 0), (5, .ptr 2 0), (7, .junk), (8, .junk), (9, .junk), (10, .junk), (15, .sl (ps.map rStr.enc)), (16, .int .i64 ps.length), (17, .int .i64 i), (24, .junk), (25, .junk), (26, .junk)] [.arr 1 0 [] true, .map (encM eBool M), .cells [.map 1]]
  | [], i, M, hd, hi, hf, hk => by
    have hi2 := drop_nil hd
    have e : i = ps.length := by omega
    refine head_go (Mc.record_Affected_L0.eq_1) ?_
    simp only [putAll] at hf
    subst hf
    rw [trunc_len (n := 3) rfl]
    simpa [e] using hk
  | p :: rest, i, M, hd, hi, hf, hk => by
    obtain ⟨hi2, hx, hxd⟩ := drop_cons hd
    have hi' : ltB i ps.length = true := ltB_iff.2 (by omega)
    have hw := wrap1 (i := i) (by omega)
    have hia := fun h => iadr_sl (h := h) (k := .i64) (rows := ps.map rStr.enc) (i := i) (row := rStr.enc p) (size := 1) (by simp [hx]) rfl
    have hmu : ∀ st, opV G st [.arr 1 0 [] true, .map (encM eBool M), .cells [.map 1]] (.mapup .s) (some [.map 1, .str p, .bool true]) = some (.junk, [.arr 1 0 [] true, .map (encM eBool (putM p true M)), .cells [.map 1]]) := fun st => by
      exact op_mapup (V := eBool) (m := M) (v := true) (h := [.arr 1 0 [] true, .map (encM eBool M), .cells [.map 1]]) rfl rfl rfl rfl
    have ih := Affected_L0 G a0 ps hb fin rest (i + 1) (putM p true M) hxd (by omega) (by simpa [putAll] using hf) hk
    refine head_go (Mc.record_Affected_L0.eq_1) ?_
    rw [trunc_len (n := 3) rfl]
    simp [hi', hia, hw, hmu]
    refine head_of ?_
    rw [trunc_len (n := 3) rfl]
    simpa using ih

theorem Affected_L1 (G G0 : Gam) (hC : G Fn.slices_ContainsFunc___api_Touch_api_Touch_ = some (.gen (lookF (F_ContainsFunc true 2 G0)))) (h0 : G0 Fn.record_Affected_1 = some (.gen (lookF F_Affected1))) (a1 a15 a16 a17 : AV) (hlow : low 4 a1 = true ∧ low 4 a15 = true ∧ low 4 a16 = true ∧ low 4 a17 = true) (xs : List Done) (hok : okR xs = true) {ks : List MK} {Q : MPost} (fin : List Int)
    (hk : ∀ M, exM G .normal ks Q [(27, .bool false)] [(0, .sl (doneRows xs)), (1, a1), (4, .own 0 0 0), (5, .ptr 2 0), (7, .junk), (8, .own 3 fin.length fin.length), (9, .junk), (10, .junk), (15, a15), (16, a16), (17, a17), (24, .sl (doneRows xs)), (25, .int .i64 xs.length), (26, .int .i64 xs.length)] [.arr 1 0 [] true, .map (encM eBool M), .cells [.map 1], .arr 1 fin.length (fin.map rInt.enc) true]) :
    ∀ (rest : List Done) (i : Nat) (M : List (Bs × Bool)) (os : List Int), xs.drop i = rest → i ≤ xs.length → os.length ≤ i → os ++ affectedL M i rest = fin →
    headM G [9, 10] Mc.record_Affected_L1 4 (.blk 2 :: ks) Q [(0, .sl (doneRows xs)), (1, a1), (4, .own 0 0 0), (5, .ptr 2 0), (7, .junk), (8, .own 3 os.length os.length), (9, .junk), (10, .junk), (15, a15), (16, a16), (17, a17), (24, .sl (doneRows xs)), (25, .int .i64 xs.length), (26, .int .i64 i)] [.arr 1 0 [] true, .map (encM eBool M), .cells [.map 1], .arr 1 os.length (os.map rInt.enc) true]
  | [], i, M, os, hd, hi, ho, hf => by
    have hi2 := drop_nil hd
    have e : i = xs.length := by omega
    refine head_go (Mc.record_Affected_L1.eq_1) ?_
    simp only [affectedL, List.append_nil] at hf
    subst hf
    rw [trunc_len (n := 4) rfl]
    simpa [e] using hk M
  | s :: rest, i, M, os, hd, hi, ho, hf => by
    have hok' := hok
    simp only [okR, Bool.and_eq_true, decide_eq_true_eq] at hok'
    obtain ⟨hi2, hx, hxd⟩ := drop_cons hd
    have hi' : ltB i xs.length = true := ltB_iff.2 (by omega)
    have hw := wrap1 (i := i) (by omega)
    have hia := fun h => iadr_sl (h := h) (k := .i64) (doneRows_get hx) s.row_len
    have hrd : s.reads.length ≤ big := by
      have := List.all_eq_true.1 hok'.2 s (List.mem_of_getElem? hx)
      simp only [okD, Bool.and_eq_true, decide_eq_true_eq] at this; exact this.1.1
    have hc := contains_use (h := [.arr 1 0 [] true, .map (encM eBool M), .cells [.map 1], .arr 1 os.length (os.map rInt.enc) true, .cells s.row]) (f := Fn.record_Affected_1) (caps := [.ptr 2 0]) (xs := s.reads) (e := Touch.row) (val := fun t => .agg t.row) (p := fun t => (lookM t.path M).getD false) hC hrd (fun t => ⟨rfl, rfl⟩) (fun t _ => ask_of (by rw [call_gen h0]; simp [lookF, F_Affected1, decM_de]))
    have hmu : ∀ st x, opV G st [.arr 1 0 [] true, .map (encM eBool M), .cells [.map 1], .arr 1 os.length (os.map rInt.enc) true, x] (.mapup .s) (some [.map 1, .str s.wrote.path, .bool true]) = some (.junk, [.arr 1 0 [] true, .map (encM eBool (putM s.wrote.path true M)), .cells [.map 1], .arr 1 os.length (os.map rInt.enc) true, x]) := fun st x => by
      exact op_mapup (V := eBool) (m := M) (v := true) (h := [.arr 1 0 [] true, .map (encM eBool M), .cells [.map 1], .arr 1 os.length (os.map rInt.enc) true, x]) rfl rfl rfl rfl
    have happ := fun st M x => op_app1 (G := G) (s := st) (e := rInt.enc) (n := 1) (b := 8) (l := 3) (os := os) (x := (i : Int)) (h := [.arr 1 0 [] true, .map (encM eBool M), .cells [.map 1], .arr 1 os.length (os.map rInt.enc) true, x]) rfl rfl (by decide) (by omega)
    have hd2 : s.reads.map Touch.row = touchRows s.reads := rfl
    have hhit : s.reads.any (fun t => (lookM t.path M).getD false) = hitBy M s := rfl
    rw [hd2, hhit] at hc
    simp only [Done.row] at hia hc hmu
    simp at happ
    refine head_go (Mc.record_Affected_L1.eq_1) ?_
    rw [trunc_len (n := 4) rfl]
    cases hh : hitBy M s with
    | false =>
      have ih := Affected_L1 G G0 hC h0 a1 a15 a16 a17 hlow xs hok fin hk rest (i + 1) M os hxd (by omega) (by omega) (by simpa [affectedL, hh] using hf)
      rw [hh] at hc
      simp [hi', hia, hw, hc]
      refine head_of ?_
      simpa [trunc, hlow] using ih
    | true =>
      have ih := Affected_L1 G G0 hC h0 a1 a15 a16 a17 hlow xs hok fin hk rest (i + 1) (putM s.wrote.path true M) (os ++ [(i : Int)]) hxd (by omega) (by simp; omega) (by rw [← hf]; simp [affectedL, hh])
      rw [hh] at hc
      simp [hi', hia, hw, hc, hmu, sizesOk, onesOk, happ]
      refine head_of ?_
      simpa [trunc, hlow] using ih

theorem Affected_ok (G G0 : Gam) (hCk : G Fn.record_Check = some (.pure F_Check)) (hC : G Fn.slices_ContainsFunc___api_Touch_api_Touch_ = some (.gen (lookF (F_ContainsFunc true 2 G0)))) (h0 : G0 Fn.record_Affected_1 = some (.gen (lookF F_Affected1))) : ∀ args r, F_Affected args = some r → wpM G Mc.record_Affected (pureQ Rs.record_Affected r) [] (frInit Ks.record_Affected args) [] := F2_ok fun xs ps r h => by
  split at h
  · rename_i ho
    injection h with h; subst h
    rw [wpM_go, eSl_done]
    have hc : ∀ st h, opV G st h (.call Fn.record_Check) (some [.sl (doneRows xs)]) = some (.int .i64 (checkE xs), h) := fun st h => op_call hCk rfl (F1_use (A := eSl rDone) (R := eInt) (x := xs) (if_pos ho.1)) (.inl rfl)
    by_cases c1 : checkE xs = 0
    · have hr : affectedE xs ps = affectedL (putAll [] ps) 0 xs := by simp [affectedE, c1]
      have l0 := fun ks Q hk => Affected_L0 G (.sl (doneRows xs)) ps ho.2 (ks := ks) (Q := Q) (putAll [] ps) ps 0 [] rfl (by omega) rfl hk
      have l1 := fun ks Q hk => Affected_L1 G G0 hC h0 (.sl (ps.map rStr.enc)) (.sl (ps.map rStr.enc)) (.int .i64 ps.length) (.int .i64 ps.length) ⟨rfl, rfl, rfl, rfl⟩ xs ho.1 (ks := ks) (Q := Q) (affectedE xs ps) hk xs 0 (putAll [] ps) [] rfl (by omega) (by simp) (by simp [hr])
      simp at l0 l1
      simp [Mc.record_Affected, frInit, Ks.record_Affected, hc, c1, eSl]
      refine l0 _ _ ?_
      simp
      refine l1 _ _ (fun M => ?_)
      have hro : rowsOf [.arr 1 0 [] true, .map (encM eBool M), .cells [.map 1], .arr 1 (affectedE xs ps).length ((affectedE xs ps).map rInt.enc) true] (.own 3 (affectedE xs ps).length (affectedE xs ps).length) = some ((affectedE xs ps).map rInt.enc) := rows_own rfl (by simp)
      simp [Rs.record_Affected, hro, eSl]
    · have e : eqB (checkE xs) 0 = false := eqB_not.2 c1
      simp [Mc.record_Affected, frInit, Ks.record_Affected, hc, e, affectedE, c1, Rs.record_Affected, eSl, rowsOf]
  · cases h

end Go.Proofs.YtmjdgpiofhildaaDoor
