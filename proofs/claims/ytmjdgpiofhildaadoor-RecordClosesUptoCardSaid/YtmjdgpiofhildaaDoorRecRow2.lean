/- The reference's Affected, the law RecordAffects, the chain of contracts up to it; more readings: records with a bound of their length, lists of strings. -/
import Derived.Test.YtmjdgpiofhildaaDoorRecK
import Derived.Test.YtmjdgpiofhildaaDoorRecRow
namespace Go.Proofs.YtmjdgpiofhildaaDoor
open Go.RowKit Go.IntWalk

section
variable {G : Gam} {s : Bool} {h : Heap}
theorem op_app_tsl {n b : Nat} {x : AV} {rows new : List (List AV)} (hx : rowsOf h x = some new) (hs : sizesOk n new = true) (hr : sizesOk n rows = true) (hne : new ≠ []) (h1 : (rows.length + new.length) * b ≤ byteMax) (h2 : rows.length + new.length ≤ byteMax) :
    opV G s h (.app false n b) (some [.tsl rows, x]) = some (.own h.length 0 (rows.length + new.length), h ++ [.arr n 0 (rows ++ new) true]) := by
  rw [opV_eff rfl]
  simp only [evalEff, appRows, Bool.false_eq_true, if_false, hx, hs, if_true, appAV]
  rw [if_neg hne, if_pos ⟨h1, h2, hr⟩]
theorem op_app_tsl0 {n b : Nat} {x : AV} {rows : List (List AV)} (hx : rowsOf h x = some []) : opV G s h (.app false n b) (some [.tsl rows, x]) = some (.tsl rows, h) := by
  rw [opV_eff rfl]
  simp [evalEff, appRows, hx, sizesOk, appAV]
theorem op_app_own0 {n b l v k : Nat} {x : AV} {rows : List (List AV)} (hx : rowsOf h x = some []) (hl : h[l]? = some (.arr n v rows true)) (hk : k = rows.length) : opV G s h (.app false n b) (some [.own l v k, x]) = some (.own l v k, h) := by
  rw [opV_eff rfl]
  simp [evalEff, appRows, hx, sizesOk, appAV, hl, hk]
@[simp] theorem op_bsl0 {n : Nat} : opV G s h (.bsl false n) (some []) = if 0 < n then some (.tsl [], h) else none := by
  rw [op_bsl rfl]; simp [sizesOk, onesOk]
end

def rHit (chs : List Bs) (s : Done) : Bool := chs.any fun c => s.reads.any fun u => u.path == c
def rAffL (chs : List Bs) (i : Nat) : List Done → List Int
  | [] => []
  | s :: r => if rHit chs s then (i : Int) :: rAffL (chs ++ [s.wrote.path]) (i + 1) r else rAffL chs (i + 1) r
def refAffectedE (xs : List Done) (ps : List Bs) : List Int := if refCheckE xs = 0 then rAffL ps 0 xs else []
def F_refAffected : List AV → Option AV := F2 (eSl rDone) (eSl rStr) (eSl rInt) fun xs ps => if okR xs = true ∧ xs.length + ps.length < big then some (refAffectedE xs ps) else none

theorem rAff_L1 (G : Gam) (hA : G Fn.licitref17_among = some (.pure F_among)) (xs : List Done) (a1 o5 : AV) (chs : List Bs) (v i : Nat) (d : Done) (hx : xs[i]? = some d) (hrd : d.reads.length ≤ big) (hb : chs.length < big) (H : Heap) (hH : H[1]? = some (.arr 1 v (chs.map rStr.enc) true)) {ks : List MK} {Q : MPost} (fin : Bool)
    (hk : exM G .normal ks Q [(27, .bool false), (26, .int .i64 chs.length), (25, .own 1 v chs.length), (24, .int .i64 chs.length)] [(0, .sl (doneRows xs)), (1, a1), (4, .own 0 0 0), (5, o5), (6, .own 1 v chs.length), (7, .int .i64 i), (8, .bool fin), (9, .int .i64 chs.length)] H) :
    ∀ (rest : List Bs) (k : Nat) (b : Bool), chs.drop k = rest → k ≤ chs.length → (b || rest.any fun c => d.reads.any fun u => u.path == c) = fin →
    headM G [] Mc.licitref17_Affected_L1 H.length (.blk 2 :: ks) Q [(0, .sl (doneRows xs)), (1, a1), (4, .own 0 0 0), (5, o5), (6, .own 1 v chs.length), (7, .int .i64 i), (8, .bool b), (9, .int .i64 k)] H
  | [], k, b, hd, hk2, hf => by
    have hi2 := drop_nil hd
    have e : k = chs.length := by omega
    simp at hf; subst hf
    refine head_go (Mc.licitref17_Affected_L1.eq_1) ?_
    rw [trunc_len rfl]
    simpa [e] using hk
  | c :: rest, k, b, hd, hk2, hf => by
    obtain ⟨hi2, hxc, hxd⟩ := drop_cons hd
    have hi' : ltB k chs.length = true := ltB_iff.2 (by omega)
    have hw := wrap1 (i := k) (by omega)
    have hrow : (chs.map rStr.enc)[k]? = some [.str c] := by simp [hxc]
    have hia := iadr_own (h := H) (l := 1) (v := v) (n := chs.length) (size := 1) (k := .i64) hH (by simp) hrow rfl
    have hld := ld_eptr (h := H) (l := 1) (v := v) (size := 1) (agg := false) (off := 0) hH hrow
    have hid := fun h => iadr_sl (h := h) (k := .i64) (doneRows_get hx) d.row_len
    have cA : ∀ st h, opV G st h (.call Fn.licitref17_among) (some [.sl (touchRows d.reads), .int .i64 d.reads.length, .str c]) = some (.int .i64 (findP (fun u : Touch => u.path == c) 0 d.reads), h) := fun st h => op_call hA rfl (F3_use (A := eSl rTouch) (B := eNat) (C := eStr) (R := eInt) (x := d.reads) (y := d.reads.length) (z := c) (r := findP (fun u : Touch => u.path == c) 0 d.reads) (show (if d.reads.length ≤ d.reads.length ∧ d.reads.length ≤ big then some (findP (fun u : Touch => u.path == c) 0 (d.reads.take d.reads.length)) else none) = _ by rw [if_pos ⟨Nat.le_refl _, hrd⟩, List.take_length])) (.inl rfl)
    have hany := findP_any (fun u : Touch => u.path == c) d.reads
    simp only [List.any_cons, ← Bool.or_assoc] at hf
    have ih := rAff_L1 G hA xs a1 o5 chs v i d hx hrd hb H hH fin hk rest (k + 1) (b || d.reads.any fun u => u.path == c) hxd (by omega) hf
    rw [← hany] at ih
    simp only [Done.row] at hid
    refine head_go (Mc.licitref17_Affected_L1.eq_1) ?_
    rw [trunc_len rfl]
    cases b with
    | true =>
      simp [hi', hw]
      refine head_of ?_
      rw [trunc_len rfl]
      simpa using ih
    | false =>
      simp [hi', hid, hia, hH, hxc, cA, hw]
      refine head_of ?_
      rw [trunc_len rfl]
      simpa using ih

theorem rAff_step (G : Gam) (hA : G Fn.licitref17_among = some (.pure F_among)) (xs : List Done) (hok : okR xs = true) (ps : List Bs) (hps : ps ≠ []) (hb : xs.length + ps.length < big) (fin : List Int) :
    ∀ (rest : List Done) (i v : Nat) (chs : List Bs) (o : Int) (os : List Int), xs.drop i = rest → i ≤ xs.length → chs.length ≤ ps.length + i → os.length < i → (o :: os) ++ rAffL chs i rest = fin →
    headM G [8, 9] Mc.licitref17_Affected_L0 2 [.blk 0, .seq (.seq (.reg [⟨none, some 64, false, .mv, [.t 5]⟩, ⟨none, some 4, true, .mv, [.t 64]⟩]) .ret)] (pureQ Rs.licitref17_Affected (.sl (fin.map rInt.enc)))
    [(0, .sl (doneRows xs)), (1, .sl (ps.map rStr.enc)), (4, .own 0 0 0), (5, .own 2 os.length (os.length + 1)), (6, .own 1 v chs.length), (7, .int .i64 i), (8, .junk), (9, .junk)] [.arr 1 0 [] true, .arr 1 v (chs.map rStr.enc) true, .arr 1 os.length ((o :: os).map rInt.enc) true]
  | [], i, v, chs, o, os, hd, hi, hc, ho, hf => by
    have hi2 := drop_nil hd
    have hi' : ltB i xs.length = false := ltB_not.2 (by omega)
    simp only [rAffL, List.append_nil] at hf
    subst hf
    have hro : rowsOf [.arr 1 0 [] true, .arr 1 v (chs.map rStr.enc) true, .arr 1 os.length ((o :: os).map rInt.enc) true] (.own 2 os.length (os.length + 1)) = some ((o :: os).map rInt.enc) := rows_own rfl (by simp)
    simp at hro
    refine head_go (Mc.licitref17_Affected_L0.eq_1) ?_
    simp [trunc, hi', Rs.licitref17_Affected, hro]
  | d :: rest, i, v, chs, o, os, hd, hi, hc, ho, hf => by
    obtain ⟨hi2, hx, hxd⟩ := drop_cons hd
    have hi' : ltB i xs.length = true := ltB_iff.2 (by omega)
    have hw := wrap1 (i := i) (by omega)
    have hok' := hok
    simp only [okR, Bool.and_eq_true, decide_eq_true_eq] at hok'
    have hrd : d.reads.length ≤ big := by
      have := List.all_eq_true.1 hok'.2 d (List.mem_of_getElem? hx)
      simp only [okD, Bool.and_eq_true, decide_eq_true_eq] at this; exact this.1.1
    have hid := fun h => iadr_sl (h := h) (k := .i64) (doneRows_get hx) d.row_len
    have l1 := fun ks Q hk => rAff_L1 G hA xs (.sl (ps.map rStr.enc)) (.own 2 os.length (os.length + 1)) chs v i d hx hrd (by omega) [.arr 1 0 [] true, .arr 1 v (chs.map rStr.enc) true, .arr 1 os.length ((o :: os).map rInt.enc) true] rfl (ks := ks) (Q := Q) (rHit chs d) hk chs 0 false rfl (by omega) (by simp [rHit])
    have happ := fun st => op_app (G := G) (s := st) (h := [.arr 1 0 [] true, .arr 1 v (chs.map rStr.enc) true, .arr 1 os.length ((o :: os).map rInt.enc) true]) (n := 1) (b := 8) (l := 2) (ver := os.length) (k := os.length + 1) (x := .tsl [[.int .i64 i]]) (new := [[.int .i64 i]]) (rows := (o :: os).map rInt.enc) rfl rfl (by simp) rfl (by simp) (by simp; unfold byteMax; unfold big at hb; omega) (by simp; unfold byteMax; unfold big at hb; omega)
    have happ2 := fun st => op_app (G := G) (s := st) (h := [.arr 1 0 [] true, .arr 1 v (chs.map rStr.enc) true, .arr 1 (os.length + 1) ((o :: os).map rInt.enc ++ [[.int .i64 i]]) true]) (n := 1) (b := 16) (l := 1) (ver := v) (k := chs.length) (x := .tsl [[.str d.wrote.path]]) (new := [[.str d.wrote.path]]) (rows := chs.map rStr.enc) rfl rfl (by simp) rfl (by simp) (by simp; unfold byteMax; unfold big at hb; omega) (by simp; unfold byteMax; unfold big at hb; omega)
    simp [Done.row] at hid l1 happ happ2
    refine head_go (Mc.licitref17_Affected_L0.eq_1) ?_
    simp [trunc, hi']
    refine l1 _ _ ?_
    cases hh : rHit chs d with
    | false =>
      simp only [rAffL, hh, Bool.false_eq_true, if_false] at hf
      have ih := rAff_step G hA xs hok ps hps hb fin rest (i + 1) v chs o os hxd (by omega) (by omega) (by omega) hf
      simp [hw]
      refine head_of ?_
      simpa [trunc] using ih
    | true =>
      simp only [rAffL, hh, if_true] at hf
      have ih := rAff_step G hA xs hok ps hps hb fin rest (i + 1) (v + 1) (chs ++ [d.wrote.path]) o (os ++ [(i : Int)]) hxd (by omega) (by simp; omega) (by simp; omega) (by rw [← hf]; simp)
      simp [hw, hid, sizesOk, onesOk, happ, happ2]
      refine head_of ?_
      simpa [trunc] using ih

theorem rAff_first (G : Gam) (hA : G Fn.licitref17_among = some (.pure F_among)) (xs : List Done) (hok : okR xs = true) (ps : List Bs) (hps : ps ≠ []) (hb : xs.length + ps.length < big) (fin : List Int) :
    ∀ (rest : List Done) (i v : Nat) (chs : List Bs), xs.drop i = rest → i ≤ xs.length → chs.length ≤ ps.length + i → rAffL chs i rest = fin →
    headM G [8, 9] Mc.licitref17_Affected_L0 2 [.blk 0, .seq (.seq (.reg [⟨none, some 64, false, .mv, [.t 5]⟩, ⟨none, some 4, true, .mv, [.t 64]⟩]) .ret)] (pureQ Rs.licitref17_Affected (.sl (fin.map rInt.enc)))
    [(0, .sl (doneRows xs)), (1, .sl (ps.map rStr.enc)), (4, .own 0 0 0), (5, .tsl []), (6, .own 1 v chs.length), (7, .int .i64 i), (8, .junk), (9, .junk)] [.arr 1 0 [] true, .arr 1 v (chs.map rStr.enc) true]
  | [], i, v, chs, hd, hi, hc, hf => by
    have hi2 := drop_nil hd
    have hi' : ltB i xs.length = false := ltB_not.2 (by omega)
    simp only [rAffL] at hf
    subst hf
    refine head_go (Mc.licitref17_Affected_L0.eq_1) ?_
    rw [trunc_len (n := 2) rfl]
    simp [hi', Rs.licitref17_Affected]
  | d :: rest, i, v, chs, hd, hi, hc, hf => by
    obtain ⟨hi2, hx, hxd⟩ := drop_cons hd
    have hi' : ltB i xs.length = true := ltB_iff.2 (by omega)
    have hw := wrap1 (i := i) (by omega)
    have hok' := hok
    simp only [okR, Bool.and_eq_true, decide_eq_true_eq] at hok'
    have hrd : d.reads.length ≤ big := by
      have := List.all_eq_true.1 hok'.2 d (List.mem_of_getElem? hx)
      simp only [okD, Bool.and_eq_true, decide_eq_true_eq] at this; exact this.1.1
    have hid := fun h => iadr_sl (h := h) (k := .i64) (doneRows_get hx) d.row_len
    have l1 := fun ks Q hk => rAff_L1 G hA xs (.sl (ps.map rStr.enc)) (.tsl []) chs v i d hx hrd (by omega) [.arr 1 0 [] true, .arr 1 v (chs.map rStr.enc) true] rfl (ks := ks) (Q := Q) (rHit chs d) hk chs 0 false rfl (by omega) (by simp [rHit])
    have happ := fun st => op_app_tsl (G := G) (s := st) (h := [.arr 1 0 [] true, .arr 1 v (chs.map rStr.enc) true]) (n := 1) (b := 8) (x := .tsl [[.int .i64 i]]) (new := [[.int .i64 i]]) (rows := []) rfl rfl rfl (by simp) (by simp; unfold byteMax; omega) (by simp; unfold byteMax; omega)
    have happ2 := fun st => op_app (G := G) (s := st) (h := [.arr 1 0 [] true, .arr 1 v (chs.map rStr.enc) true, .arr 1 0 [[.int .i64 i]] true]) (n := 1) (b := 16) (l := 1) (ver := v) (k := chs.length) (x := .tsl [[.str d.wrote.path]]) (new := [[.str d.wrote.path]]) (rows := chs.map rStr.enc) rfl rfl (by simp) rfl (by simp) (by simp; unfold byteMax; unfold big at hb; omega) (by simp; unfold byteMax; unfold big at hb; omega)
    simp [Done.row] at hid l1 happ happ2
    refine head_go (Mc.licitref17_Affected_L0.eq_1) ?_
    rw [trunc_len (n := 2) rfl]
    simp [hi']
    refine l1 _ _ ?_
    cases hh : rHit chs d with
    | false =>
      simp only [rAffL, hh, Bool.false_eq_true, if_false] at hf
      have ih := rAff_first G hA xs hok ps hps hb fin rest (i + 1) v chs hxd (by omega) (by omega) hf
      simp [hw]
      refine head_of ?_
      rw [trunc_len (n := 2) rfl]
      simpa using ih
    | true =>
      simp only [rAffL, hh, if_true] at hf
      have ih := rAff_step G hA xs hok ps hps hb fin rest (i + 1) (v + 1) (chs ++ [d.wrote.path]) (i : Int) [] hxd (by omega) (by simp; omega) (by simp) (by rw [← hf]; simp)
      simp [hw, hid, sizesOk, onesOk, happ, happ2]
      refine head_of ?_
      simpa [trunc] using ih

/-- Where no path is handed in, no step is affected. -/
theorem rAff_none (G : Gam) (xs : List Done) (hb : xs.length < big) : ∀ (rest : List Done) (i : Nat), xs.drop i = rest → i ≤ xs.length →
    headM G [8, 9] Mc.licitref17_Affected_L0 1 [.blk 0, .seq (.seq (.reg [⟨none, some 64, false, .mv, [.t 5]⟩, ⟨none, some 4, true, .mv, [.t 64]⟩]) .ret)] (pureQ Rs.licitref17_Affected (.sl []))
    [(0, .sl (doneRows xs)), (1, .sl []), (4, .own 0 0 0), (5, .tsl []), (6, .tsl []), (7, .int .i64 i), (8, .junk), (9, .junk)] [.arr 1 0 [] true]
  | [], i, hd, hi => by
    have hi2 := drop_nil hd
    have hi' : ltB i xs.length = false := ltB_not.2 (by omega)
    refine head_go (Mc.licitref17_Affected_L0.eq_1) ?_
    rw [trunc_len (n := 1) rfl]
    simp [hi', Rs.licitref17_Affected]
  | d :: rest, i, hd, hi => by
    obtain ⟨hi2, hx, hxd⟩ := drop_cons hd
    have hi' : ltB i xs.length = true := ltB_iff.2 (by omega)
    have hw := wrap1 (i := i) (by omega)
    have ih := rAff_none G xs hb rest (i + 1) hxd (by omega)
    refine head_go (Mc.licitref17_Affected_L0.eq_1) ?_
    rw [trunc_len (n := 1) rfl]
    simp [hi']
    refine head_go (Mc.licitref17_Affected_L1.eq_1) ?_
    rw [trunc_len (n := 1) rfl]
    simp [hw]
    refine head_of ?_
    rw [trunc_len (n := 1) rfl]
    simpa using ih

theorem rAffL_nil : ∀ (xs : List Done) (i : Nat), rAffL [] i xs = []
  | [], i => rfl
  | d :: r, i => by simp [rAffL, rHit, rAffL_nil r]

theorem refAffected_ok (G : Gam) (hC : G Fn.licitref17_Check = some (.pure F_refCheck)) (hA : G Fn.licitref17_among = some (.pure F_among)) : ∀ args r, F_refAffected args = some r → wpM G Mc.licitref17_Affected (pureQ Rs.licitref17_Affected r) [] (frInit Ks.licitref17_Affected args) [] := F2_ok fun xs ps r h => by
  split at h
  · rename_i ho
    injection h with h; subst h
    rw [wpM_go, eSl_done]
    have hc : ∀ st h, opV G st h (.call Fn.licitref17_Check) (some [.sl (doneRows xs)]) = some (.int .i64 (refCheckE xs), h) := fun st h => op_call hC rfl (F1_use (A := eSl rDone) (R := eInt) (x := xs) (if_pos ho.1)) (.inl rfl)
    by_cases c1 : refCheckE xs = 0
    · have hr : refAffectedE xs ps = rAffL ps 0 xs := by simp [refAffectedE, c1]
      rw [hr]
      by_cases hps : ps = []
      · subst hps
        have ih := rAff_none G xs (by have := ho.2; simp at this; exact this) xs 0 rfl (by omega)
        have happ := fun st h => op_app_tsl0 (G := G) (s := st) (h := h) (n := 1) (b := 16) (x := .sl []) (rows := []) rfl
        rw [rAffL_nil]
        simpa [Mc.licitref17_Affected, frInit, Ks.licitref17_Affected, hc, c1, eSl, happ] using ih
      · have ih := rAff_first G hA xs ho.1 ps hps ho.2 _ xs 0 0 ps rfl (by omega) (by omega) rfl
        have hlen : 0 < ps.length := List.length_pos_iff.2 hps
        have happ := fun st => op_app_tsl (G := G) (s := st) (h := [.arr 1 0 [] true]) (n := 1) (b := 16) (x := .sl (ps.map rStr.enc)) (new := ps.map rStr.enc) (rows := []) rfl (sizesOk_map (e := rStr.enc) (fun _ => rfl) ps) rfl (by simpa using hps) (by have := ho.2; simp; unfold byteMax; unfold big at this; omega) (by have := ho.2; simp; unfold byteMax; unfold big at this; omega)
        simp at happ
        simpa [Mc.licitref17_Affected, frInit, Ks.licitref17_Affected, hc, c1, eSl, happ] using ih
    · have e : eqB (refCheckE xs) 0 = false := eqB_not.2 c1
      simp [Mc.licitref17_Affected, frInit, Ks.licitref17_Affected, hc, e, refAffectedE, c1, Rs.licitref17_Affected, eSl]
  · cases h

/-! ### The plain law -/
theorem affected_eq : ∀ (rest : List Done) (i : Nat) (M : List (Bs × Bool)) (chs : List Bs), (∀ p, (lookM p M).getD false = chs.contains p) → affectedL M i rest = rAffL chs i rest
  | [], i, M, chs, h => rfl
  | s :: r, i, M, chs, h => by
    have hh : hitBy M s = rHit chs s := by
      rw [Bool.eq_iff_iff]
      simp only [hitBy, rHit, List.any_eq_true, h, List.contains_iff_mem]
      constructor
      · rintro ⟨t, h1, h2⟩; exact ⟨t.path, h2, t, h1, by simp⟩
      · rintro ⟨c, h1, t, h2, h3⟩
        have : t.path = c := by simpa using h3
        exact ⟨t, h2, by rw [this]; exact h1⟩
    simp only [affectedL, rAffL, hh]
    split
    · rw [affected_eq r (i + 1) (putM s.wrote.path true M) (chs ++ [s.wrote.path]) (fun p => ?_)]
      rw [lookM_put]
      by_cases hp : p = s.wrote.path
      · subst hp; simp
      · simp [hp, h]
    · exact affected_eq r (i + 1) M chs h
theorem putAll_look : ∀ (ps : List Bs) (M : List (Bs × Bool)) (qs : List Bs), (∀ p, (lookM p M).getD false = qs.contains p) → ∀ p, (lookM p (putAll M ps)).getD false = (qs ++ ps).contains p
  | [], M, qs, h, p => by simpa [putAll] using h p
  | q :: ps, M, qs, h, p => by
    have := putAll_look ps (putM q true M) (qs ++ [q]) (fun p => by
      rw [lookM_put]
      by_cases hp : p = q
      · subst hp; simp
      · simp [hp, h]) p
    simpa [putAll] using this
theorem affectedE_eq (xs : List Done) (ps : List Bs) : affectedE xs ps = refAffectedE xs ps := by
  unfold affectedE refAffectedE
  rw [check_eq]
  split
  · exact affected_eq xs 0 _ _ (fun p => by simpa using putAll_look ps [] [] (fun p => by simp [lookM]) p)
  · rfl

theorem decInts_enc : ∀ xs : List Int, decInts (xs.map rInt.enc) = some xs
  | [] => rfl
  | x :: xs => by simp [decInts, decInts_enc xs]
theorem rAffL_len : ∀ (xs : List Done) (chs : List Bs) (i : Nat), (rAffL chs i xs).length ≤ xs.length
  | [], _, _ => Nat.le_refl _
  | s :: r, chs, i => by
    unfold rAffL; split
    · have := rAffL_len r (chs ++ [s.wrote.path]) (i + 1); simp; omega
    · have := rAffL_len r chs (i + 1); simp; omega

def F_RecordAffects : List AV → Option AV := F3 (eSl rDone) (eSl rDone) (eSl rStr) eBool fun a b ps => if okS a = true ∧ okS b = true ∧ a.length ≤ 1048576 ∧ b.length ≤ 1048576 ∧ ps.length ≤ 1048576 then some true else none
theorem RecordAffects_ok (G : Gam) (hA : G Fn.licitlaw17_awake = some (.pure F_awake)) (hF : G Fn.licitref17_Few = some (.pure F_Few)) (hC : G Fn.record_Affected = some (.pure F_Affected)) (hR : G Fn.licitref17_Affected = some (.pure F_refAffected)) (hE : G Fn.slices_Equal___int_int_ = some (.pure F_EqualI))
    (hD : G Fn.record_Diverge = some (.pure F_Diverge)) (hD2 : G Fn.licitref17_Diverge = some (.pure F_Diverge)) : ∀ args r, F_RecordAffects args = some r → wpM G Mc.licitlaw17_RecordAffects (pureQ Rs.licitlaw17_RecordAffects r) [] (frInit Ks.licitlaw17_RecordAffects args) [] := F3_ok fun a b ps r h => by
  split at h
  · rename_i ho
    injection h with h; subst h
    obtain ⟨oa, ob, la, lb, lp⟩ := ho
    simp only [okS, Bool.and_eq_true, decide_eq_true_eq] at oa ob
    have hoka : okReads a = true := by
      have := oa.1
      simp only [okR, Bool.and_eq_true, decide_eq_true_eq] at this
      refine List.all_eq_true.2 fun d hd => ?_
      have := List.all_eq_true.1 this.2 d hd
      simp only [okD, Bool.and_eq_true, decide_eq_true_eq] at this
      simpa using this.1.1
    rw [wpM_go, eSl_done, eSl_done]
    have cA : ∀ st h, opV G st h (.call Fn.licitlaw17_awake) (some []) = some (.bool true, h) := fun st h => op_call hA rfl rfl (.inl rfl)
    have cF : ∀ st h, opV G st h (.call Fn.licitref17_Few) (some [.sl (doneRows a)]) = some (.bool (fewE a), h) := fun st h => op_call hF rfl (F1_use (A := eSl rDone) (R := eBool) (x := a) (if_pos oa.1)) (.inl rfl)
    have cF2 : ∀ st h, opV G st h (.call Fn.licitref17_Few) (some [.sl (doneRows b)]) = some (.bool (fewE b), h) := fun st h => op_call hF rfl (F1_use (A := eSl rDone) (R := eBool) (x := b) (if_pos ob.1)) (.inl rfl)
    have cC : ∀ st h, opV G st h (.call Fn.record_Affected) (some [.sl (doneRows a), .sl (ps.map rStr.enc)]) = some (.sl ((refAffectedE a ps).map rInt.enc), h) := fun st h => op_call hC rfl (F2_use (A := eSl rDone) (B := eSl rStr) (R := eSl rInt) (x := a) (y := ps) (r := refAffectedE a ps) (by rw [if_pos ⟨oa.1, by unfold big; omega⟩, affectedE_eq])) (.inr rfl)
    have cR : ∀ st h, opV G st h (.call Fn.licitref17_Affected) (some [.sl (doneRows a), .sl (ps.map rStr.enc)]) = some (.sl ((refAffectedE a ps).map rInt.enc), h) := fun st h => op_call hR rfl (F2_use (A := eSl rDone) (B := eSl rStr) (R := eSl rInt) (x := a) (y := ps) (r := refAffectedE a ps) (by rw [if_pos ⟨oa.1, by unfold big; omega⟩])) (.inr rfl)
    have hlen : (refAffectedE a ps).length ≤ big := by
      unfold refAffectedE; split
      · have := rAffL_len a ps 0; unfold big; omega
      · simp
    have cE : ∀ st h, opV G st h (.call Fn.slices_Equal___int_int_) (some [.sl ((refAffectedE a ps).map rInt.enc), .sl ((refAffectedE a ps).map rInt.enc)]) = some (.bool true, h) := fun st h => op_call hE rfl (by simp [F_EqualI, decInts_enc, hlen]) (.inl rfl)
    have cD : ∀ st h, opV G st h (.call Fn.record_Diverge) (some [.sl (doneRows a), .sl (doneRows b)]) = some (.int .i64 (divFrom 0 a b), h) := fun st h => op_call hD rfl (by simp only [F_Diverge, dec_doneRows]; rw [if_pos ⟨by unfold big; omega, by unfold big; omega, hoka⟩]) (.inl rfl)
    have cD2 : ∀ st h, opV G st h (.call Fn.licitref17_Diverge) (some [.sl (doneRows a), .sl (doneRows b)]) = some (.int .i64 (divFrom 0 a b), h) := fun st h => op_call hD2 rfl (by simp only [F_Diverge, dec_doneRows]; rw [if_pos ⟨by unfold big; omega, by unfold big; omega, hoka⟩]) (.inl rfl)
    cases hf : fewE a with
    | false => simp [Mc.licitlaw17_RecordAffects, frInit, Ks.licitlaw17_RecordAffects, cA, cF, hf, Rs.licitlaw17_RecordAffects]
    | true =>
      cases hf2 : fewE b with
      | false => simp [Mc.licitlaw17_RecordAffects, frInit, Ks.licitlaw17_RecordAffects, cA, cF, cF2, hf, hf2, Rs.licitlaw17_RecordAffects]
      | true =>
        cases hp : ltB 12 ps.length with
        | true => simp [Mc.licitlaw17_RecordAffects, frInit, Ks.licitlaw17_RecordAffects, cA, cF, cF2, hf, hf2, hp, eSl, Rs.licitlaw17_RecordAffects]
        | false => simp [Mc.licitlaw17_RecordAffects, frInit, Ks.licitlaw17_RecordAffects, cA, cF, cF2, hf, hf2, hp, eSl, cC, cR, cE, cD, cD2, Rs.licitlaw17_RecordAffects]
  · cases h

end Go.Proofs.YtmjdgpiofhildaaDoor

namespace Go.Proofs.YtmjdgpiofhildaaDoor
noncomputable def Gb1 : Gam := Ga48.add Fn.licitref17_Affected (.pure F_refAffected)
theorem gb1_ok (m : Int) : GamOK Tryd.prog (gv1 m) Gb1 := gam_add (ga48_ok m) (by kernel_rfl) (Pure.licitref17_Affected (ga48_ok m) (refAffected_ok _ rfl rfl))
noncomputable def Gb2 : Gam := Gb1.add Fn.licitlaw17_RecordAffects (.pure F_RecordAffects)
theorem gb2_ok (m : Int) : GamOK Tryd.prog (gv1 m) Gb2 := gam_add (gb1_ok m) (by kernel_rfl) (Pure.licitlaw17_RecordAffects (gb1_ok m) (RecordAffects_ok _ rfl rfl rfl rfl rfl rfl rfl))
open Go.RowKit Go.WideShapes
section
variable {H : Type} {enc : TypeId × Value → H} {w : World} {base : Nat} {spare : Nat → Bool} {held : Bool}
theorem of_record' {fuel : Nat} {cs : List Value} {x : DataW H × List MemPlace} (h : DataW.trod enc Tryd.prog w base spare held fuel 23 cs = some x) (hb : Rows.uptoBulk x.1 ≤ 1048576) :
    ∃ xs : List Done, cellsD x.1 = [.sl (doneRows xs)] ∧ okS xs = true ∧ xs.length ≤ 1048576 := by
  obtain ⟨xs, h1, h2⟩ := of_record h hb
  refine ⟨xs, h1, h2, ?_⟩
  rcases DataW.trod_slice u23 h with ⟨_, rfl⟩ | ⟨a, len, cap, elems, rest, n, _, _, rfl, _, _, _, hlen, hel, _, _⟩
  · simp only [cellsD, List.cons.injEq, AV.sl.injEq, and_true] at h1
    have h3 := congrArg List.length h1
    rw [doneRows_len] at h3
    simp only [List.length_nil] at h3; omega
  · simp only [cellsD, List.cons.injEq, AV.sl.injEq, and_true] at h1
    have := congrArg List.length h1
    rw [rowsD_map] at this
    simp at this
    have hs1 := bulks.slice_le (elems.map (·.1)) (rest.map (·.1))
    simp only [List.length_map] at hs1
    simp only at hb
    omega
theorem of_strs {fuel : Nat} {cs : List Value} {x : DataW H × List MemPlace} (h : DataW.trod enc Tryd.prog w base spare held fuel 33 cs = some x) :
    ∃ ps : List Bs, cellsD x.1 = [.sl (ps.map rStr.enc)] ∧ ps.length ≤ Rows.uptoBulk x.1 := by
  rcases DataW.trod_slice u33 h with ⟨_, rfl⟩ | ⟨a, len, cap, elems, rest, n, _, _, rfl, _, _, _, hlen, hel, _, _⟩
  · exact ⟨[], by simp [cellsD], by simp⟩
  · obtain ⟨ps, h1, h2, _⟩ := of_list (row := rStr.enc) (Q := fun _ _ => True) (fun _ _ _ _ _ => trivial) (fun fuel cs x h => by
      obtain ⟨s, hs⟩ := of_str h
      exact ⟨s, by simp [cellsD, hs], trivial⟩) elems (each_of hlen hel)
    have hs1 := bulks.slice_le (elems.map (·.1)) (rest.map (·.1))
    simp only [List.length_map] at hs1
    exact ⟨ps, by simp [cellsD, h1], by simp only; omega⟩
end
end Go.Proofs.YtmjdgpiofhildaaDoor
