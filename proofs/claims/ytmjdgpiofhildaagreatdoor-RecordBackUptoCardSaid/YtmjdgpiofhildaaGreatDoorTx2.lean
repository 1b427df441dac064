/- record.Print: a touched file's line; its closure. record.Print walked. -/
import Derived.Test.YtmjdgpiofhildaaGreatDoorTx1
import Derived.Test.YtmjdgpiofhildaaGreatDoorRmB
import Derived.Test.YtmjdgpiofhildaaGreatDoorRmC
namespace Go.Proofs.YtmjdgpiofhildaaGreatDoor
open Go.RowKit Go.IntWalk

def hexS (d : Bs) : Bs := if d.length = 32 then hexE d else []
theorem hexS_len (d : Bs) : (hexS d).length ≤ 64 := by
  unfold hexS; split
  · rename_i h; rw [hexE_len]; omega
  · simp
def lineE (word : Bs) (t : Touch) : Bs := word ++ [32] ++ t.path ++ [32] ++ hexS t.dig ++ [10]

theorem str_add {a b : Bs} (h : a.length + b.length ≤ strMax) : binAV .add (.str a) (.str b) = some (.str (a ++ b)) := by
  simp only [binAV, strBin]
  simp
  unfold strMax at h ⊢
  omega

def F_Print1 : List AV → Heap → Option (AV × Heap)
  | [.str word, .agg [.str p, .str d], .ptr b 0], h => if d.length < big ∧ (lineE word ⟨p, d⟩).length ≤ strMax then
      (writeF 73 5 (h ++ [.cells [.str p, .str d]]) b (lineE word ⟨p, d⟩)).map fun h' => (.tup [], h') else none
  | _, _ => none

theorem Print1_ok {G : Gam} (hW : G Fn.__strings_Builder__WriteString = some (.gen (F_WriteString 73 5))) (hH : G Fn.digest_Hex = some (.pure F_Hex)) : ∀ args h r h', F_Print1 args h = some (r, h') →
    wpM G Mc.record_Print_1 (genQ Rs.record_Print_1 r h') [] (frInit Ks.record_Print_1 args) h := by
  intro args h r h' hF
  unfold F_Print1 at hF
  split at hF
  · rename_i word p d b
    split at hF
    · rename_i hc
      obtain ⟨hd, hc2⟩ := hc
      have hlen : word.length + 1 + p.length + 1 + (hexS d).length + 1 ≤ strMax := by
        simp [lineE] at hc2; omega
      simp only [Option.map_eq_some_iff, Prod.mk.injEq] at hF
      obtain ⟨h2, hwr, rfl, rfl⟩ := hF
      have hlast : (h ++ [Blk.cells [.str p, .str d]])[h.length]? = some (.cells [.str p, .str d]) := by simp
      obtain ⟨H1, hH1⟩ : ∃ H, H = h ++ [Blk.cells [.str p, .str d]] := ⟨_, rfl⟩
      rw [← hH1] at hlast hwr
      have g1 : loadAV 1 false H1 (.ptr h.length 1) = some (.str d) := ld_cell hlast rfl
      have g0 : loadAV 1 false H1 (.ptr h.length 0) = some (.str p) := ld_cell hlast rfl
      have c1 : ∀ st, opV G st H1 (.call Fn.digest_Hex) (some [.str d]) = some (hexR d, H1) := fun st => op_call hH rfl (by simp [F_Hex, hd]) (.inr rfl)
      have hx : ∃ e, hexR d = .tup [.str (hexS d), .int .i64 e] := by
        unfold hexR hexS; split
        · exact ⟨_, rfl⟩
        · exact ⟨_, rfl⟩
      obtain ⟨e, he⟩ := hx
      rw [he] at c1
      have s1 := str_add (a := word) (b := [32]) (by simp; omega)
      have s2 := str_add (a := word ++ [32]) (b := p) (by simp; omega)
      have s3 := str_add (a := word ++ [32] ++ p) (b := [32]) (by simp; omega)
      have s4 := str_add (a := word ++ [32] ++ p ++ [32]) (b := hexS d) (by simp; omega)
      have s5 := str_add (a := word ++ [32] ++ p ++ [32] ++ hexS d) (b := [10]) (by simp; omega)
      have c2 : opV G false H1 (.callg Fn.__strings_Builder__WriteString) (some [.ptr b 0, .str (word ++ [32] ++ p ++ [32] ++ hexS d ++ [10])]) = some (.tup [.int .i64 (lineE word ⟨p, d⟩).length, .nili], h2) := by
        rw [op_callg hW]
        simp only [F_WriteString]
        unfold lineE at hwr
        rw [hwr]; rfl
      rw [wpM_go]
      simp [Mc.record_Print_1, Ks.record_Print_1, frInit, upd, lkp, -List.append_assoc, ← hH1, g0, g1, c1, s1, s2, s3, s4, s5, c2, genQ, Rs.record_Print_1, -loadAV]
    · cases hF
  · cases hF

end Go.Proofs.YtmjdgpiofhildaaGreatDoor

namespace Go.Proofs.YtmjdgpiofhildaaGreatDoor
open Go.RowKit Go.IntWalk

def wRead : Bs := [114, 101, 97, 100]
def wWrite : Bs := [119, 114, 105, 116, 101]
def wStep : Bs := [115, 116, 101, 112, 32]
def stepLine (d : Done) : Bs := wStep ++ Lib.itoa d.pkg ++ [32] ++ Lib.itoa d.line ++ [32] ++ Lib.itoa d.kind ++ [10]
def rdLines (ts : List Touch) : Bs := ts.flatMap (lineE wRead)
def doneE (d : Done) : Bs := stepLine d ++ rdLines d.reads ++ lineE wWrite d.wrote
def printE (r : List Done) : Bs := r.flatMap doneE
def i64ok (n : Int) : Bool := decide (-9223372036854775808 ≤ n) && decide (n ≤ 9223372036854775807)
def okDp (d : Done) : Bool := i64ok d.pkg && i64ok d.line && i64ok d.kind && d.reads.all (fun t => decide (t.dig.length < big)) && decide (d.wrote.dig.length < big)
def okPr (r : List Done) : Bool := r.all okDp && decide ((printE r).length ≤ strMax)
def printR (r : List Done) : Bs × Int := if checkE r = 0 then (printE r, 0) else ([], 1)
def F_Print : List AV → Option AV := F1 (eSl rDone) (eTup2 eStr eInt) fun r => if okR r = true ∧ (checkE r = 0 → okPr r = true) then some (printR r) else none

/-- A builder of one's own, and what lies behind it. -/
def bldT (o : Bs) (tl : Heap) : Heap := bldH o ++ tl
theorem bldT_write {o s : Bs} {tl : Heap} (hs : s ≠ []) (hb : o.length + s.length ≤ byteMax) : writeF 73 5 (bldT o tl) 1 s = some (bldT (o ++ s) tl) := by
  have ha : addrOK 1 (if o = [] then .nilp else .ptr 1 0) = true := by split <;> rfl
  simp only [writeF, bldT, bldH, List.cons_append, List.nil_append, List.getElem?_cons_succ, List.getElem?_cons_zero]
  rw [if_pos ⟨trivial, trivial, ha, trivial, by simp, hb⟩]
  simp [moreB, hs]
theorem bldT_len (o : Bs) (tl : Heap) : (bldT o tl).length = tl.length + 2 := by simp [bldT, bldH]
theorem bldT_app (o : Bs) (tl ex : Heap) : bldT o tl ++ ex = bldT o (tl ++ ex) := by simp [bldT]
theorem bldT_at (o : Bs) (tl : Heap) (k : Nat) : (bldT o tl)[k + 2]? = tl[k]? := by simp [bldT, bldH]
theorem bldT_set (o : Bs) (tl : Heap) (k : Nat) (x : Blk) : (bldT o tl).set (k + 2) x = bldT o (tl.set k x) := by simp [bldT, bldH]
theorem trunc_bld {o : Bs} {tl ex : Heap} {n : Nat} {fr : List (Nat × AV)} (hn : tl.length + 2 = n) (hf : lowFr n fr = true) (ht : lowH n tl = true) : trunc n fr (bldT o (tl ++ ex)) = bldT o tl := by
  have h1 : (bldT o (tl ++ ex)).take n = bldT o tl := by
    rw [← bldT_app, List.take_append_of_le_length (by rw [bldT_len]; omega), List.take_of_length_le (by rw [bldT_len]; omega)]
  have ha : low n (if o = [] then .nilp else .ptr 1 0) = true := by
    split
    · rfl
    · simp [low]; omega
  have h2 : lowH n (bldT o tl) = true := by
    simp only [bldT, bldH, List.cons_append, List.nil_append, lowH, lowB, lowL, ha, ht]
    simp [low]; omega
  unfold trunc
  rw [h1, hf, h2]
  rfl

theorem readLen {ts : List Touch} {t : Touch} (h : t ∈ ts) : (lineE wRead t).length ≤ (rdLines ts).length := by
  induction ts with
  | nil => cases h
  | cons x r ih =>
    simp only [rdLines, List.flatMap_cons, List.length_append]
    rcases List.mem_cons.1 h with rfl | h
    · omega
    · have := ih h
      unfold rdLines at this; omega

theorem line_ne (w : Bs) (t : Touch) : lineE w t ≠ [] := by simp [lineE]

/-- One line. -/
theorem line_call {G : Gam} (hP : G Fn.record_Print_1 = some (.gen F_Print1)) {o w p d : Bs} {tl : Heap} (hd : d.length < big) (hb : o.length + (lineE w ⟨p, d⟩).length ≤ strMax) :
    callAV G Fn.record_Print_1 [.str w, .agg [.str p, .str d], .ptr 1 0] (bldT o tl) = some (.tup [], bldT (o ++ lineE w ⟨p, d⟩) (tl ++ [.cells [.str p, .str d]])) := by
  rw [call_gen hP]
  simp only [F_Print1]
  rw [if_pos ⟨hd, by omega⟩, bldT_app, bldT_write (line_ne _ _) (by unfold strMax at hb; unfold byteMax; omega)]
  rfl

theorem print_L1 (G : Gam) (hP : G Fn.record_Print_1 = some (.gen F_Print1)) (a0 : AV) (ts : List Touch) (ny : Nat) (i : Nat) (drow : List AV) (o : Bs) (ha : low 3 a0 = true) (hdr : lowL 3 drow = true) (hd : ∀ t ∈ ts, t.dig.length < big) (hlen : ts.length ≤ big) {ks : List MK} {Q : MPost} :
    ∀ (rest : List Touch) (k : Nat), ts.drop k = rest → k ≤ ts.length → o.length + (rdLines ts).length ≤ strMax →
    (∀ env, exM G .normal ks Q env [(0, a0), (2, .str []), (3, .int .i64 0), (4, .ptr 1 0), (5, .fn Fn.record_Print_1 [.ptr 1 0]), (7, .ptr 2 0), (9, .junk), (14, a0), (15, .int .i64 ny), (16, .int .i64 i), (37, .sl (touchRows ts)), (38, .int .i64 ts.length), (39, .int .i64 ts.length)] (bldT (o ++ rdLines ts) [.cells drow])) →
    ∀ v9 ex, headM G [9] Mc.record_Print_L1 3 (.blk 2 :: ks) Q [(0, a0), (2, .str []), (3, .int .i64 0), (4, .ptr 1 0), (5, .fn Fn.record_Print_1 [.ptr 1 0]), (7, .ptr 2 0), (9, v9), (14, a0), (15, .int .i64 ny), (16, .int .i64 i), (37, .sl (touchRows ts)), (38, .int .i64 ts.length), (39, .int .i64 k)] (bldT (o ++ rdLines (ts.take k)) ([.cells drow] ++ ex))
  | [], k, hdr2, hk, hb, hfin, v9, ex => by
    have hi2 := drop_nil hdr2
    have e : k = ts.length := by omega
    subst e
    rw [List.take_length]
    refine head_go (Mc.record_Print_L1.eq_1) ?_
    rw [trunc_bld (n := 3) rfl (by simp [junkAll, lowFr, low, lowL, ha]) (by simp [lowH, lowB, hdr])]
    simp
    simpa using hfin _
  | ⟨p, d⟩ :: rest, k, hdr2, hk, hb, hfin, v9, ex => by
    obtain ⟨t, ht⟩ : ∃ t : Touch, t = ⟨p, d⟩ := ⟨_, rfl⟩
    obtain ⟨hi2, hx, hxd⟩ := drop_cons hdr2
    rw [← ht] at hx hdr2
    have hi' : ltB k ts.length = true := ltB_iff.2 (by omega)
    have hw := wrap1 (i := k) (by omega)
    have hia := fun h => iadr_sl (h := h) (k := .i64) (touchRows_get hx) (size := 2) rfl
    have htk : ts.take (k + 1) = ts.take k ++ [t] := by rw [List.take_add_one, hx]; rfl
    have hnext : rdLines (ts.take (k + 1)) = rdLines (ts.take k) ++ lineE wRead t := by rw [htk]; simp [rdLines]
    have hall : rdLines ts = rdLines (ts.take k) ++ lineE wRead t ++ rdLines rest := by
      conv => lhs; rw [← List.take_append_drop k ts, hdr2]
      simp [rdLines]
    have hl : (rdLines ts).length = (rdLines (ts.take k)).length + (lineE wRead t).length + (rdLines rest).length := by rw [hall]; simp [Nat.add_assoc]
    have ih := print_L1 G hP a0 ts ny i drow o ha hdr hd hlen rest (k + 1) (by rw [← hxd]) (by omega) hb hfin
    have cl := line_call (G := G) hP (o := o ++ rdLines (ts.take k)) (w := wRead) (p := p) (d := d) (tl := [.cells drow, .cells [.str p, .str d]]) (by have := hd t (List.mem_of_getElem? hx); rw [ht] at this; exact this) (by rw [← ht]; simp only [List.length_append]; omega)
    rw [← ht] at cl
    rw [List.append_assoc, ← hnext] at cl
    obtain ⟨O, hO⟩ : ∃ O, O = o ++ rdLines (ts.take k) := ⟨_, rfl⟩
    have st1 : opV G false (bldT O [.cells drow, .cells [.str [], .str []]]) (.st 2) (some [.ptr 3 0, .agg [.str p, .str d]]) = some (.junk, bldT O [.cells drow, .cells [.str p, .str d]]) := by
      rw [op_st]; simp [bldT, bldH, setAt, AV.cells, oneC]
    have ld1 : loadAV 2 true (bldT O [.cells drow, .cells [.str p, .str d]]) (.ptr 3 0) = some (.agg [.str p, .str d]) := by simp [loadAV, bldT, bldH, cut, mkVal]
    rw [← hO] at cl
    have cl' : callAV G Fn.record_Print_1 [.str [114, 101, 97, 100], .agg [.str p, .str d], .ptr 1 0] (bldT O [.cells drow, .cells [.str p, .str d]]) = some (.tup [], bldT (o ++ rdLines (ts.take (k + 1))) [.cells drow, .cells [.str p, .str d], .cells [.str p, .str d]]) := cl
    rw [← hO]
    refine head_go (Mc.record_Print_L1.eq_1) ?_
    rw [trunc_bld (n := 3) rfl (by simp [junkAll, lowFr, low, lowL, ha]) (by simp [lowH, lowB, hdr])]
    simp [hi', hia, cut, mkVal, bldT_app, bldT_len, st1, ld1, ht, cl', hw, -stAV_ptr, -loadAV]
    exact ih (.ptr 3 0) [.cells [.str p, .str d], .cells [.str p, .str d]]

theorem okDp_inv {d : Done} (h : okDp d = true) : (-9223372036854775808 ≤ d.pkg ∧ d.pkg ≤ 9223372036854775807) ∧ (-9223372036854775808 ≤ d.line ∧ d.line ≤ 9223372036854775807) ∧ (-9223372036854775808 ≤ d.kind ∧ d.kind ≤ 9223372036854775807) ∧ (∀ t ∈ d.reads, t.dig.length < big) ∧ d.wrote.dig.length < big := by
  simp only [okDp, i64ok, Bool.and_eq_true, decide_eq_true_eq, List.all_eq_true] at h
  exact ⟨h.1.1.1.1, h.1.1.1.2, h.1.1.2, h.1.2, h.2⟩

theorem print_L0 (G : Gam) (hP : G Fn.record_Print_1 = some (.gen F_Print1)) (hI : G Fn.strconv_Itoa = some (.pure F_Itoa)) (hW : G Fn.__strings_Builder__WriteString = some (.gen (F_WriteString 73 5)))
    (xs : List Done) (hd : ∀ d ∈ xs, okDp d = true) (hr : ∀ d ∈ xs, d.reads.length ≤ big) (hlen : xs.length ≤ big) (hb : (printE xs).length ≤ strMax) {ks : List MK} {Q : MPost} :
    ∀ (rest : List Done) (i : Nat), xs.drop i = rest → i ≤ xs.length →
    (∀ env, exM G .normal ks Q env [(0, .sl (doneRows xs)), (2, .str []), (3, .int .i64 0), (4, .ptr 1 0), (5, .fn Fn.record_Print_1 [.ptr 1 0]), (7, .junk), (9, .junk), (14, .sl (doneRows xs)), (15, .int .i64 xs.length), (16, .int .i64 xs.length), (37, .junk), (38, .junk), (39, .junk)] (bldT (printE xs) [])) →
    ∀ v7 v9 v37 v38 v39 ex, headM G [7, 9, 37, 38, 39] Mc.record_Print_L0 2 (.blk 0 :: ks) Q [(0, .sl (doneRows xs)), (2, .str []), (3, .int .i64 0), (4, .ptr 1 0), (5, .fn Fn.record_Print_1 [.ptr 1 0]), (7, v7), (9, v9), (14, .sl (doneRows xs)), (15, .int .i64 xs.length), (16, .int .i64 i), (37, v37), (38, v38), (39, v39)] (bldT (printE (xs.take i)) ([] ++ ex))
  | [], i, hdr, hi, hfin, v7, v9, v37, v38, v39, ex => by
    have hi2 := drop_nil hdr
    have e : i = xs.length := by omega
    subst e
    rw [List.take_length]
    refine head_go (Mc.record_Print_L0.eq_1) ?_
    rw [trunc_bld (n := 2) rfl (by simp [junkAll, lowFr, low, lowL]) rfl]
    simp
    simpa using hfin _
  | ⟨pk, ln, kd, rs, ⟨wp, wd⟩⟩ :: rest, i, hdr, hi, hfin, v7, v9, v37, v38, v39, ex => by
    obtain ⟨dn, hdn⟩ : ∃ dn : Done, dn = ⟨pk, ln, kd, rs, ⟨wp, wd⟩⟩ := ⟨_, rfl⟩
    obtain ⟨hi2, hx, hxd⟩ := drop_cons hdr
    rw [← hdn] at hx hdr
    have hmem := List.mem_of_getElem? hx
    obtain ⟨n1, n2, n3, n4, n5⟩ := okDp_inv (hd dn hmem)
    have n6 := hr dn hmem
    have hi' : ltB i xs.length = true := ltB_iff.2 (by omega)
    have hw := wrap1 (i := i) (by omega)
    have hia := fun h => iadr_sl (h := h) (k := .i64) (doneRows_get hx) (size := 6) rfl
    have htk : xs.take (i + 1) = xs.take i ++ [dn] := by rw [List.take_add_one, hx]; rfl
    have hnext : printE (xs.take (i + 1)) = printE (xs.take i) ++ doneE dn := by rw [htk]; simp [printE]
    have hall : printE xs = printE (xs.take i) ++ doneE dn ++ printE rest := by
      conv => lhs; rw [← List.take_append_drop i xs, hdr]
      simp [printE]
    have hl : (printE xs).length = (printE (xs.take i)).length + (doneE dn).length + (printE rest).length := by rw [hall]; simp [Nat.add_assoc]
    have hde : (doneE dn).length = (stepLine dn).length + (rdLines dn.reads).length + (lineE wWrite dn.wrote).length := by simp [doneE, Nat.add_assoc]
    have ih := print_L0 G hP hI hW xs hd hr hlen hb rest (i + 1) (by rw [← hxd]) (by omega) hfin
    subst hdn
    simp only [Done.row] at hia
    dsimp only at hde n4 n5 n6
    obtain ⟨O, hO⟩ : ∃ O, O = printE (xs.take i) := ⟨_, rfl⟩
    rw [← hO] at hnext hl
    have st1 : opV G false (bldT O [.cells [.int .i64 0, .int .i64 0, .int .i64 0, .nils, .str [], .str []]]) (.st 6) (some [.ptr 2 0, .agg [.int .i64 pk, .int .i64 ln, .int .i64 kd, .sl (touchRows rs), .str wp, .str wd]]) = some (.junk, bldT O [.cells [.int .i64 pk, .int .i64 ln, .int .i64 kd, .sl (touchRows rs), .str wp, .str wd]]) := by
      rw [op_st]; simp [bldT, bldH, setAt, AV.cells, oneC]
    obtain ⟨R, hR⟩ : ∃ R : List AV, R = [.int .i64 pk, .int .i64 ln, .int .i64 kd, .sl (touchRows rs), .str wp, .str wd] := ⟨_, rfl⟩
    have st2 : opV G false (bldT O [.cells [.int .i64 0, .int .i64 0, .int .i64 0, .nils, .str [], .str []]]) (.st 6) (some [.ptr 2 0, .agg [.int .i64 pk, .int .i64 ln, .int .i64 kd, .sl (touchRows rs), .str wp, .str wd]]) = some (.junk, bldT O [.cells R]) := by rw [hR]; exact st1
    have lR : lowL 3 R = true := by rw [hR]; rfl
    have l0 : ∀ o, loadAV 1 false (bldT o [.cells R]) (.ptr 2 0) = some (.int .i64 pk) := fun o => by simp [loadAV, bldT, bldH, cut, mkVal, hR]
    have l1 : ∀ o, loadAV 1 false (bldT o [.cells R]) (.ptr 2 1) = some (.int .i64 ln) := fun o => by simp [loadAV, bldT, bldH, cut, mkVal, hR]
    have l2 : ∀ o, loadAV 1 false (bldT o [.cells R]) (.ptr 2 2) = some (.int .i64 kd) := fun o => by simp [loadAV, bldT, bldH, cut, mkVal, hR]
    have l3 : ∀ o, loadAV 1 false (bldT o [.cells R]) (.ptr 2 3) = some (.sl (touchRows rs)) := fun o => by simp [loadAV, bldT, bldH, cut, mkVal, hR]
    have l4 : ∀ o, loadAV 2 true (bldT o [.cells R]) (.ptr 2 4) = some (.agg [.str wp, .str wd]) := fun o => by simp [loadAV, bldT, bldH, cut, mkVal, hR]
    have it : ∀ (n : Int) st h, -9223372036854775808 ≤ n → n ≤ 9223372036854775807 → opV G st h (.call Fn.strconv_Itoa) (some [.int .i64 n]) = some (.str (Lib.itoa n), h) := fun n st h a b => op_call hI rfl (by simp [F_Itoa, a, b]) (.inl rfl)
    have i1 := fun st h => it pk st h n1.1 n1.2
    have i2 := fun st h => it ln st h n2.1 n2.2
    have i3 := fun st h => it kd st h n3.1 n3.2
    have hsl : wStep.length + (Lib.itoa pk).length + 1 + (Lib.itoa ln).length + 1 + (Lib.itoa kd).length + 1 ≤ strMax := by
      have : (stepLine ⟨pk, ln, kd, rs, ⟨wp, wd⟩⟩).length = wStep.length + (Lib.itoa pk).length + 1 + (Lib.itoa ln).length + 1 + (Lib.itoa kd).length + 1 := by simp [stepLine]; omega
      omega
    have s1 := str_add (a := wStep) (b := Lib.itoa pk) (by omega)
    have s2 := str_add (a := wStep ++ Lib.itoa pk) (b := [32]) (by simp; omega)
    have s3 := str_add (a := wStep ++ Lib.itoa pk ++ [32]) (b := Lib.itoa ln) (by simp; omega)
    have s4 := str_add (a := wStep ++ Lib.itoa pk ++ [32] ++ Lib.itoa ln) (b := [32]) (by simp; omega)
    have s5 := str_add (a := wStep ++ Lib.itoa pk ++ [32] ++ Lib.itoa ln ++ [32]) (b := Lib.itoa kd) (by simp; omega)
    have s6 := str_add (a := wStep ++ Lib.itoa pk ++ [32] ++ Lib.itoa ln ++ [32] ++ Lib.itoa kd) (b := [10]) (by simp; omega)
    rw [show wStep = [115, 116, 101, 112, 32] from rfl] at s1
    have wr : opV G true (bldT O [.cells R]) (.callg Fn.__strings_Builder__WriteString) (some [.ptr 1 0, .str (wStep ++ Lib.itoa pk ++ [32] ++ Lib.itoa ln ++ [32] ++ Lib.itoa kd ++ [10])]) = some (.tup [.int .i64 (stepLine ⟨pk, ln, kd, rs, ⟨wp, wd⟩⟩).length, .nili], bldT (O ++ stepLine ⟨pk, ln, kd, rs, ⟨wp, wd⟩⟩) [.cells R]) := by
      rw [op_callg hW]
      simp only [F_WriteString]
      rw [bldT_write (by simp) (by
        have : (stepLine ⟨pk, ln, kd, rs, ⟨wp, wd⟩⟩).length = (wStep ++ Lib.itoa pk ++ [32] ++ Lib.itoa ln ++ [32] ++ Lib.itoa kd ++ [10]).length := rfl
        unfold strMax at hb; unfold byteMax; omega)]
      rfl
    obtain ⟨T1, hT1⟩ : ∃ T, T = wStep ++ Lib.itoa pk := ⟨_, rfl⟩
    rw [show ([115, 116, 101, 112, 32] : Bs) ++ Lib.itoa pk = T1 from hT1.symm] at s1
    rw [← hT1] at s2 s3 s4 s5 s6 wr
    obtain ⟨T2, hT2⟩ : ∃ T, T = T1 ++ [32] := ⟨_, rfl⟩
    rw [← hT2] at s2 s3 s4 s5 s6 wr
    obtain ⟨T3, hT3⟩ : ∃ T, T = T2 ++ Lib.itoa ln := ⟨_, rfl⟩
    rw [← hT3] at s3 s4 s5 s6 wr
    obtain ⟨T4, hT4⟩ : ∃ T, T = T3 ++ [32] := ⟨_, rfl⟩
    rw [← hT4] at s4 s5 s6 wr
    obtain ⟨T5, hT5⟩ : ∃ T, T = T4 ++ Lib.itoa kd := ⟨_, rfl⟩
    rw [← hT5] at s5 s6 wr
    obtain ⟨T6, hT6⟩ : ∃ T, T = T5 ++ [10] := ⟨_, rfl⟩
    rw [← hT6] at s6 wr
    have lp := fun ks hq => print_L1 G hP (.sl (doneRows xs)) rs xs.length i R (O ++ stepLine ⟨pk, ln, kd, rs, ⟨wp, wd⟩⟩) rfl lR n4 n6 (ks := ks) (Q := Q) rs 0 rfl (by omega) (by simp only [List.length_append]; omega) hq .junk []
    have cl := line_call (G := G) hP (o := O ++ stepLine ⟨pk, ln, kd, rs, ⟨wp, wd⟩⟩ ++ rdLines rs) (w := wWrite) (p := wp) (d := wd) (tl := [.cells R]) n5 (by simp only [List.length_append]; omega)
    have e9 : O ++ stepLine ⟨pk, ln, kd, rs, ⟨wp, wd⟩⟩ ++ rdLines rs ++ lineE wWrite ⟨wp, wd⟩ = printE (xs.take (i + 1)) := by rw [hnext]; simp [doneE]
    rw [e9] at cl
    have cl' : callAV G Fn.record_Print_1 [.str [119, 114, 105, 116, 101], .agg [.str wp, .str wd], .ptr 1 0] (bldT (O ++ stepLine ⟨pk, ln, kd, rs, ⟨wp, wd⟩⟩ ++ rdLines rs) [.cells R]) = some (.tup [], bldT (printE (xs.take (i + 1))) [.cells R, .cells [.str wp, .str wd]]) := cl
    refine head_go (Mc.record_Print_L0.eq_1) ?_
    rw [trunc_bld (n := 2) rfl (by simp [junkAll, lowFr, low, lowL]) rfl]
    rw [← hO]
    simp [hi', hia, cut, mkVal, bldT_app, bldT_len, st2, l0, l1, l2, l3, i1, i2, i3, s1, s2, s3, s4, s5, s6, wr, lenAV, -stAV_ptr, -loadAV, -List.append_assoc]
    have tk0 : rdLines (rs.take 0) = [] := rfl
    simp only [tk0, List.append_nil] at lp
    refine lp _ (fun env => ?_)
    simp [l4, cl', hw, -stAV_ptr, -loadAV, -List.append_assoc]
    exact ih (.ptr 2 0) .junk (.sl (touchRows rs)) (.int .i64 rs.length) (.int .i64 rs.length) [.cells R, .cells [.str wp, .str wd]]

theorem okR_reads {xs : List Done} (h : okR xs = true) {d : Done} (hd : d ∈ xs) : d.reads.length ≤ big := by
  simp only [okR, okD, Bool.and_eq_true, decide_eq_true_eq, List.all_eq_true] at h
  exact (h.2 d hd).1.1
theorem okR_len {xs : List Done} (h : okR xs = true) : xs.length ≤ big := by
  simp only [okR, Bool.and_eq_true, decide_eq_true_eq] at h
  exact h.1

theorem bldT_string {o : Bs} (hb : o.length ≤ byteMax) : F_String 5 [.ptr 1 0] (bldT o []) = some (.str o, if o = [] then bldT o [] else (bldT o []).set 0 .dead) := by
  simp only [F_String, bldT, bldH, List.cons_append, List.nil_append, List.getElem?_cons_succ, List.getElem?_cons_zero]
  rw [if_pos ⟨trivial, trivial, by simp, hb⟩]
  by_cases h : o = []
  · subst h; rfl
  · have : o.length ≠ 0 := fun e => h (List.eq_nil_of_length_eq_zero e)
    rw [if_neg this, bytes_back]
    simp [h]

theorem Print_ok (G : Gam) (hP : G Fn.record_Print_1 = some (.gen F_Print1)) (hI : G Fn.strconv_Itoa = some (.pure F_Itoa)) (hW : G Fn.__strings_Builder__WriteString = some (.gen (F_WriteString 73 5)))
    (hS : G Fn.__strings_Builder__String = some (.gen (F_String 5))) (hC : G Fn.record_Check = some (.pure F_Check)) : ∀ args r, F_Print args = some r → wpM G Mc.record_Print (pureQ Rs.record_Print r) [] (frInit Ks.record_Print args) [] := F1_ok fun xs r h => by
  split at h
  · rename_i ho
    injection h with h; subst h
    obtain ⟨hoR, ho2⟩ := ho
    rw [wpM_go, eSl_done]
    have hc : ∀ st h, opV G st h (.call Fn.record_Check) (some [.sl (doneRows xs)]) = some (.int .i64 (checkE xs), h) := fun st h =>
      op_call hC (us := [.sl (doneRows xs)]) rfl (F1_use (A := eSl rDone) (R := eInt) (f := fun r => if okR r then some (checkE r) else none) (x := xs) (r := checkE xs) (if_pos hoR)) (.inl rfl)
    by_cases h0 : checkE xs = 0
    · have ho := ho2 h0
      simp only [okPr, Bool.and_eq_true, decide_eq_true_eq, List.all_eq_true] at ho
      obtain ⟨hd, hb⟩ := ho
      have lp := fun ks hq => print_L0 G hP hI hW xs hd (fun d hdm => okR_reads hoR hdm) (okR_len hoR) hb (ks := ks) (Q := pureQ Rs.record_Print ((eTup2 eStr eInt).enc (printR xs))) xs 0 rfl (by omega) hq .junk .junk .junk .junk .junk []
      have c2 : opV G false (bldT (printE xs) []) (.callg Fn.__strings_Builder__String) (some [.ptr 1 0]) = some (.str (printE xs), if printE xs = [] then bldT (printE xs) [] else (bldT (printE xs) []).set 0 .dead) := by rw [op_callg hS]; exact bldT_string (by unfold strMax at hb; unfold byteMax; omega)
      have e0 : eqB (checkE xs) 0 = true := eqB_iff.2 h0
      simp [Mc.record_Print, Ks.record_Print, frInit, upd, lkp, hc, e0]
      refine lp _ (fun env => ?_)
      simp [c2, pureQ, Rs.record_Print, printR, h0, eTup2, eStr, eInt]
    · have e0 : eqB (checkE xs) 0 = false := eqB_not.2 h0
      simp [Mc.record_Print, Ks.record_Print, frInit, upd, lkp, hc, e0, pureQ, Rs.record_Print, printR, h0, eTup2, eStr, eInt]
  · cases h

end Go.Proofs.YtmjdgpiofhildaaGreatDoor
