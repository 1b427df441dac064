/- The reference's Few; the law's touch and example. record.Sources. The plain law of Check: what the program's and the reference's come to is the same. The example that every law checks first; the law RecordChecks. -/
import Derived.Test.YtmjdgpiofhildaaGreatDoorRmD
import Derived.KernelRfl
namespace Go.Proofs.YtmjdgpiofhildaaGreatDoor
open Go.RowKit Go.IntWalk

def bigT (t : Touch) : Bool := ltB 200 t.path.length || ltB 200 t.dig.length
def bigD (d : Done) : Bool := ltB 12 d.reads.length || ltB 200 d.wrote.path.length || ltB 200 d.wrote.dig.length
def fewD (d : Done) : Bool := !bigD d && d.reads.all fun t => !bigT t
def fewE (xs : List Done) : Bool := if 1024 < xs.length then true else if 12 < xs.length then false else xs.all fewD
def F_Few : List AV → Option AV := F1 (eSl rDone) eBool fun r => if okR r then some (fewE r) else none

attribute [local congr] ite_congr in
theorem Few_L1 (G : Gam) (xs : List Done) (i : Nat) (d : Done) (hx : xs[i]? = some d) (hb : d.reads.length ≤ 12) {ks : List MK} (b : Bool)
    (hk : (d.reads.all fun t => !bigT t) = true → exM G .normal ks (pureQ Rs.licitref17_Few (.bool b)) [(51, .bool false), (50, .int .i64 d.reads.length), (49, .sl (touchRows d.reads)), (48, .fptr d.row 3), (47, .fptr d.row 0), (46, .int .i64 i), (45, .sl (doneRows xs)), (44, .int .i64 d.reads.length)]
      [(0, .sl (doneRows xs)), (2, .bool false), (3, .int .i64 i), (4, .int .i64 d.reads.length)] [])
    (hr : (d.reads.all fun t => !bigT t) = false → b = false) :
    ∀ (rest : List Touch) (j : Nat), d.reads.drop j = rest → j ≤ d.reads.length → (rest.all fun t => !bigT t) = (d.reads.all fun t => !bigT t) →
    headM G [] Mc.licitref17_Few_L1 0 (.blk 2 :: ks) (pureQ Rs.licitref17_Few (.bool b))
    [(0, .sl (doneRows xs)), (2, .bool false), (3, .int .i64 i), (4, .int .i64 j)] []
  | [], j, hd, hj, ht => by
    have hi2 := drop_nil hd
    have e : j = d.reads.length := by omega
    have hia := fun h => iadr_sl (h := h) (k := .i64) (doneRows_get hx) d.row_len
    have hk' := hk (by rw [← ht]; rfl)
    simp only [Done.row] at hia hk'
    refine head_go (Mc.licitref17_Few_L1.eq_1) ?_
    simpa [trunc, hia, e] using hk'
  | t :: rest, j, hd, hj, ht => by
    obtain ⟨hi2, hxt, hxd⟩ := drop_cons hd
    have hi' : ltB j d.reads.length = true := ltB_iff.2 (by omega)
    have hw := wrap1 (i := j) (by unfold big; omega)
    have hia := fun h => iadr_sl (h := h) (k := .i64) (doneRows_get hx) d.row_len
    simp only [Done.row] at hia
    simp only [List.all_cons] at ht
    refine head_go (Mc.licitref17_Few_L1.eq_1) ?_
    cases hp : bigT t with
    | true =>
      simp only [hp, Bool.not_true, Bool.false_and] at ht
      have := hr ht.symm
      subst this
      unfold bigT at hp
      simp +contextual [trunc, hia, hi', iadr_sl (touchRows_get hxt)]
      rw [hp]
      simp [Rs.licitref17_Few]
    | false =>
      simp only [hp, Bool.not_false, Bool.true_and] at ht
      have ih := Few_L1 G xs i d hx hb b hk hr rest (j + 1) hxd (by omega) ht
      unfold bigT at hp
      simp +contextual [trunc, hia, hi', iadr_sl (touchRows_get hxt)]
      rw [hp]
      simp [hw]
      refine head_of ?_
      simpa [trunc] using ih

attribute [local congr] ite_congr in
theorem Few_L0 (G : Gam) (xs : List Done) (hb : xs.length ≤ 12) : ∀ (rest : List Done) (i : Nat), xs.drop i = rest →
    headM G [4] Mc.licitref17_Few_L0 0 [.blk 0, .seq (.seq (.reg [⟨none, some 2, true, .mv, [.c (.bool true)]⟩]) .ret)] (pureQ Rs.licitref17_Few (.bool (rest.all fewD)))
    [(0, .sl (doneRows xs)), (2, .bool false), (3, .int .i64 i), (4, .junk)] []
  | [], i, hd => by
    have hi := drop_nil hd
    have hi' : ltB i xs.length = false := ltB_not.2 (by omega)
    refine head_go (Mc.licitref17_Few_L0.eq_1) ?_
    simp [trunc, hi', Rs.licitref17_Few]
  | d :: rest, i, hd => by
    obtain ⟨hi, hx, hxd⟩ := drop_cons hd
    have hi' : ltB i xs.length = true := ltB_iff.2 (by omega)
    have hw := wrap1 (i := i) (by unfold big; omega)
    have hia := fun h => iadr_sl (h := h) (k := .i64) (doneRows_get hx) d.row_len
    have ih := Few_L0 G xs hb rest (i + 1) hxd
    simp only [Done.row] at hia
    refine head_go (Mc.licitref17_Few_L0.eq_1) ?_
    cases hp : bigD d with
    | true =>
      simp only [List.all_cons, fewD, hp, Bool.not_true, Bool.false_and]
      unfold bigD at hp
      simp +contextual [trunc, hia, hi']
      rw [hp]
      simp [Rs.licitref17_Few]
    | false =>
      simp only [List.all_cons, fewD, hp, Bool.not_false, Bool.true_and]
      have hrd : d.reads.length ≤ 12 := by
        simp only [bigD, Bool.or_eq_false_iff] at hp
        have := ltB_not.1 hp.1.1; omega
      have l1 := fun ks b hk hr => Few_L1 G xs i d hx hrd (ks := ks) b hk hr d.reads 0 rfl (by omega) rfl
      simp only [Int.natCast_zero, Done.row] at l1
      unfold bigD at hp
      simp +contextual [trunc, hia, hi', -List.all_eq_true]
      rw [hp]
      simp [-List.all_eq_true]
      refine l1 _ _ (fun ha => ?_) (fun ha => ?_)
      · rw [ha]
        simp [hw, -List.all_eq_true]
        refine head_of ?_
        simpa [trunc, -List.all_eq_true] using ih
      · rw [ha]; rfl

theorem Few_ok (G : Gam) : ∀ args r, F_Few args = some r → wpM G Mc.licitref17_Few (pureQ Rs.licitref17_Few r) [] (frInit Ks.licitref17_Few args) [] := F1_ok fun xs r h => by
  split at h
  · rename_i ho
    injection h with h; subst h
    rw [wpM_go, eSl_done]
    cases c1 : ltB 1024 xs.length with
    | true =>
      have := ltB_iff.1 c1
      have e : 1024 < xs.length := by omega
      simp [Mc.licitref17_Few, frInit, Ks.licitref17_Few, Rs.licitref17_Few, c1, fewE, e]
    | false =>
      have := ltB_not.1 c1
      have e : ¬ 1024 < xs.length := by omega
      cases c2 : ltB 12 xs.length with
      | true =>
        have := ltB_iff.1 c2
        have e2 : 12 < xs.length := by omega
        simp [Mc.licitref17_Few, frInit, Ks.licitref17_Few, Rs.licitref17_Few, c1, c2, fewE, e, e2]
      | false =>
        have := ltB_not.1 c2
        have e2 : ¬ 12 < xs.length := by omega
        have ih := Few_L0 G xs (by omega) xs 0 rfl
        have hf : fewE xs = xs.all fewD := by simp [fewE, e, e2]
        rw [hf]
        simpa [Mc.licitref17_Few, frInit, Ks.licitref17_Few, c1, c2, -List.all_eq_true] using ih
  · cases h

/-! ### The example -/
def F_touch : List AV → Option AV := F2 eStr eStr (eAgg rTouch) fun p l => if l.length = 1 then some ⟨p, Lib.repeatL l 32⟩ else none
theorem touch_ok (G : Gam) (hR : G Fn.strings_Repeat = some (.pure F_Repeat)) : ∀ args r, F_touch args = some r → wpM G Mc.licitlaw17_touch (pureQ Rs.licitlaw17_touch r) [] (frInit Ks.licitlaw17_touch args) [] := F2_ok fun p l r h => by
  split at h
  · rename_i hl
    injection h with h; subst h
    rw [wpM_go, eAgg_touch]
    have hc : ∀ st h, opV G st h (.call Fn.strings_Repeat) (some [.str l, .int .i64 32]) = some (.str (Lib.repeatL l 32), h) := fun st h => op_call hR rfl (F2_use (A := eStr) (B := eNat) (R := eStr) (x := l) (y := 32) (if_pos ⟨by omega, by decide⟩)) (.inl rfl)
    generalize Lib.repeatL l 32 = z at hc ⊢
    simp [Mc.licitlaw17_touch, frInit, Ks.licitlaw17_touch, hc, bldAV, Touch.row, Rs.licitlaw17_touch]
  · cases h

def ltr (c : UInt8) : Bs := Lib.repeatL [c] 32
def exampleD (c : UInt8) : List Done :=
  [⟨0, 0, 1, [⟨[97, 47, 120], ltr 120⟩], ⟨[97, 47, 111], ltr 111⟩⟩, ⟨0, 1, 4, [⟨[97, 47, 111], ltr 111⟩], ⟨[97, 47, 98], ltr c⟩⟩]
def F_example : List AV → Option AV := F1 eStr (eSl rDone) fun l => match l with | [c] => some (exampleD c) | _ => none
theorem example_ok (G : Gam) (hT : G Fn.licitlaw17_touch = some (.pure F_touch)) : ∀ args r, F_example args = some r → wpM G Mc.licitlaw17_example (pureQ Rs.licitlaw17_example r) [] (frInit Ks.licitlaw17_example args) [] := F1_ok fun l r h => by
  split at h
  · rename_i c
    injection h with h; subst h
    rw [wpM_go, eSl_done]
    have hc : ∀ st h p (b : UInt8), opV G st h (.call Fn.licitlaw17_touch) (some [.str p, .str [b]]) = some (.agg [.str p, .str (ltr b)], h) := fun st h p b => op_call hT rfl (F2_use (A := eStr) (B := eStr) (R := eAgg rTouch) (x := p) (y := [b]) (r := ⟨p, ltr b⟩) (if_pos rfl)) (.inr rfl)
    simp [Mc.licitlaw17_example, frInit, Ks.licitlaw17_example, hc, bldAV, sizesOk, onesOk, Rs.licitlaw17_example, exampleD, doneRows, touchRows, Done.row, Touch.row]
  · cases h

end Go.Proofs.YtmjdgpiofhildaaGreatDoor

namespace Go.Proofs.YtmjdgpiofhildaaGreatDoor
open Go.RowKit Go.IntWalk

def writtenM (M : List (Bs × Bool)) : List Done → List (Bs × Bool)
  | [] => M
  | d :: r => writtenM (putM d.wrote.path true M) r
def srcReads (W : List (Bs × Bool)) (b : Bool) : List Touch → List Bs
  | [] => []
  | t :: ts => if (b && !(lookM t.path W).getD false) = true then t.path :: srcReads W b ts else srcReads W b ts
def srcAll (W : List (Bs × Bool)) : List Bool → List Done → List Bs
  | b :: bs, d :: ds => srcReads W b d.reads ++ srcAll W bs ds
  | _, _ => []
def readsSum : List Done → Nat
  | [] => 0
  | d :: r => d.reads.length + readsSum r
def okS (xs : List Done) : Bool := okR xs && decide (readsSum xs < big)
def sourcesE (xs : List Done) (p : Bs) : List Bs := if (neededE xs p).2 then Lib.compact (sortS (srcAll (writtenM [] xs) (neededE xs p).1 xs)) else []
def F_Sources : List AV → Option AV := F2 (eSl rDone) eStr (eSl rStr) fun xs p => if okS xs then some (sourcesE xs p) else none

theorem Sources_L0 (G : Gam) (a0 a1 a5 : AV) (ys : List Done) (hb : ys.length ≤ big) {ks : List MK} {Q : MPost} (fin : List (Bs × Bool)) : ∀ (rest : List Done) (i : Nat) (M : List (Bs × Bool)), ys.drop i = rest → i ≤ ys.length → writtenM M rest = fin → low 2 a0 = true → low 2 a1 = true → low 2 a5 = true →
    exM G .normal ks Q [(27, .bool false)] [(0, a0), (1, a1), (4, .own 0 0 0), (5, a5), (6, .bool true), (7, .map 1), (9, .junk), (10, .junk), (11, .junk), (12, .junk), (14, .junk), (24, .sl (doneRows ys)), (25, .int .i64 ys.length), (26, .int .i64 ys.length), (35, .junk), (36, .junk), (37, .junk), (46, .junk), (47, .junk), (48, .junk)] [.arr 1 0 [] true, .map (encM eBool fin)] →
    headM G [9] Mc.record_Sources_L0 2 (.blk 0 :: ks) Q [(0, a0), (1, a1), (4, .own 0 0 0), (5, a5), (6, .bool true), (7, .map 1), (9, .junk), (10, .junk), (11, .junk), (12, .junk), (14, .junk), (24, .sl (doneRows ys)), (25, .int .i64 ys.length), (26, .int .i64 i), (35, .junk), (36, .junk), (37, .junk), (46, .junk), (47, .junk), (48, .junk)] [.arr 1 0 [] true, .map (encM eBool M)]
  | [], i, M, hd, hi, hf, l0, l1, l5, hk => by
    have hi2 := drop_nil hd
    have e : i = ys.length := by omega
    refine head_go (Mc.record_Sources_L0.eq_1) ?_
    simp only [writtenM] at hf
    subst hf
    rw [trunc_len (n := 2) rfl]
    simpa [e] using hk
  | d :: rest, i, M, hd, hi, hf, l0, l1, l5, hk => by
    obtain ⟨hi2, hx, hxd⟩ := drop_cons hd
    have hi' : ltB i ys.length = true := ltB_iff.2 (by omega)
    have hw := wrap1 (i := i) (by omega)
    have hia := fun h => iadr_sl (h := h) (k := .i64) (doneRows_get hx) d.row_len
    have ih := Sources_L0 G a0 a1 a5 ys hb fin rest (i + 1) (putM d.wrote.path true M) hxd (by omega) (by simpa [writtenM] using hf) l0 l1 l5 hk
    have hmu : ∀ st x, opV G st [.arr 1 0 [] true, .map (encM eBool M), x] (.mapup .s) (some [.map 1, .str d.wrote.path, .bool true]) = some (.junk, [.arr 1 0 [] true, .map (encM eBool (putM d.wrote.path true M)), x]) := fun st x => by
      exact op_mapup (V := eBool) (m := M) (v := true) (h := [.arr 1 0 [] true, .map (encM eBool M), x]) rfl rfl rfl rfl
    simp only [Done.row] at hia
    refine head_go (Mc.record_Sources_L0.eq_1) ?_
    rw [trunc_len (n := 2) rfl]
    simp [hi', hia, hmu, hw]
    refine head_of ?_
    simpa [trunc, l0, l1, l5] using ih

/-- The heap of Sources behind its first loop. -/
abbrev sHeap (W : List (Bs × Bool)) (os : List Bs) : Heap := [.arr 1 0 [] true, .map (encM eBool W), .arr 1 os.length (os.map rStr.enc) true]

theorem Sources_L2 (G : Gam) (a0 a1 a5 a24 a25 a26 a35 a36 : AV) (hlow : low 3 a0 = true ∧ low 3 a1 = true ∧ low 3 a5 = true ∧ low 3 a24 = true ∧ low 3 a25 = true ∧ low 3 a26 = true ∧ low 3 a35 = true ∧ low 3 a36 = true) (i : Nat) (b : Bool) (W : List (Bs × Bool)) (ts : List Touch) (hb : ts.length ≤ big) {ks : List MK} {Q : MPost} (fin : List Bs) (hbig : fin.length < big) : ∀ (rest : List Touch) (j : Nat) (os : List Bs), ts.drop j = rest → j ≤ ts.length → os ++ srcReads W b rest = fin →
    exM G .normal ks Q [(49, .bool false)] [(0, a0), (1, a1), (4, .own 0 0 0), (5, a5), (6, .bool true), (7, .map 1), (9, .junk), (10, .own 2 fin.length fin.length), (11, .int .i64 i), (12, .bool b), (14, .junk), (24, a24), (25, a25), (26, a26), (35, a35), (36, a36), (37, .int .i64 i), (46, .sl (touchRows ts)), (47, .int .i64 ts.length), (48, .int .i64 ts.length)] (sHeap W fin) →
    headM G [14] Mc.record_Sources_L2 3 (.blk 4 :: ks) Q [(0, a0), (1, a1), (4, .own 0 0 0), (5, a5), (6, .bool true), (7, .map 1), (9, .junk), (10, .own 2 os.length os.length), (11, .int .i64 i), (12, .bool b), (14, .junk), (24, a24), (25, a25), (26, a26), (35, a35), (36, a36), (37, .int .i64 i), (46, .sl (touchRows ts)), (47, .int .i64 ts.length), (48, .int .i64 j)] (sHeap W os)
  | [], j, os, hd, hj, hf, hk => by
    have hi2 := drop_nil hd
    have e : j = ts.length := by omega
    refine head_go (Mc.record_Sources_L2.eq_1) ?_
    simp only [srcReads, List.append_nil] at hf
    subst hf
    rw [trunc_len (n := 3) rfl]
    simpa [e] using hk
  | t :: rest, j, os, hd, hj, hf, hk => by
    obtain ⟨hi2, hx, hxd⟩ := drop_cons hd
    have hi' : ltB j ts.length = true := ltB_iff.2 (by omega)
    have hw := wrap1 (i := j) (by omega)
    have hlk : ∀ st x, opV G st (sHeap W os ++ [x]) (.look .s false (.bool false)) (some [.map 1, .str t.path]) = some (.bool ((lookM t.path W).getD false), sHeap W os ++ [x]) := fun st x => by
      rw [op_look (V := eBool) (m := W) rfl]; cases lookM t.path W <;> rfl
    have hol : os.length ≤ fin.length := by rw [← hf]; simp
    have happ := fun st x => op_app1 (G := G) (s := st) (e := rStr.enc) (n := 1) (b := 16) (l := 2) (os := os) (x := t.path) (h := sHeap W os ++ [x]) rfl rfl (by decide) (by omega)
    simp at hlk happ
    refine head_go (Mc.record_Sources_L2.eq_1) ?_
    rw [trunc_len (n := 3) rfl]
    cases b with
    | false =>
      have ih := Sources_L2 G a0 a1 a5 a24 a25 a26 a35 a36 hlow i false W ts hb fin hbig rest (j + 1) os hxd (by omega) (by simpa [srcReads] using hf) hk
      simp [hi', iadr_sl (touchRows_get hx), hw]
      refine head_of ?_
      simpa [trunc, hlow, sHeap] using ih
    | true =>
      cases hl : (lookM t.path W).getD false with
      | true =>
        have ih := Sources_L2 G a0 a1 a5 a24 a25 a26 a35 a36 hlow i true W ts hb fin hbig rest (j + 1) os hxd (by omega) (by simpa [srcReads, hl] using hf) hk
        simp [hi', iadr_sl (touchRows_get hx), hw, hlk, hl]
        refine head_of ?_
        simpa [trunc, hlow, sHeap] using ih
      | false =>
        have ih := Sources_L2 G a0 a1 a5 a24 a25 a26 a35 a36 hlow i true W ts hb fin hbig rest (j + 1) (os ++ [t.path]) hxd (by omega) (by rw [← hf]; simp [srcReads, hl]) hk
        simp [hi', iadr_sl (touchRows_get hx), hw, hlk, hl, sizesOk, onesOk, happ]
        refine head_of ?_
        simpa [trunc, hlow, sHeap] using ih

theorem Sources_L1 (G : Gam) (a1 : AV) (xs : List Done) (hok : okR xs = true) (ms : List Bool) (hms : ms.length = xs.length) (W : List (Bs × Bool)) (a24 a25 a26 : AV) (hlow : low 3 a1 = true ∧ low 3 a24 = true ∧ low 3 a25 = true ∧ low 3 a26 = true) {ks : List MK} {Q : MPost} (fin : List Bs) (hbig : fin.length < big) : ∀ (rest : List Bool) (drest : List Done) (i : Nat) (os : List Bs), ms.drop i = rest → xs.drop i = drest → i ≤ ms.length → os ++ srcAll W rest drest = fin →
    exM G .normal ks Q [(38, .bool false)] [(0, .sl (doneRows xs)), (1, a1), (4, .own 0 0 0), (5, .sl (ms.map rBool.enc)), (6, .bool true), (7, .map 1), (9, .junk), (10, .own 2 fin.length fin.length), (11, .junk), (12, .junk), (14, .junk), (24, a24), (25, a25), (26, a26), (35, .sl (ms.map rBool.enc)), (36, .int .i64 ms.length), (37, .int .i64 ms.length), (46, .junk), (47, .junk), (48, .junk)] (sHeap W fin) →
    headM G [11, 12, 14, 46, 47, 48] Mc.record_Sources_L1 3 (.blk 2 :: ks) Q [(0, .sl (doneRows xs)), (1, a1), (4, .own 0 0 0), (5, .sl (ms.map rBool.enc)), (6, .bool true), (7, .map 1), (9, .junk), (10, .own 2 os.length os.length), (11, .junk), (12, .junk), (14, .junk), (24, a24), (25, a25), (26, a26), (35, .sl (ms.map rBool.enc)), (36, .int .i64 ms.length), (37, .int .i64 i), (46, .junk), (47, .junk), (48, .junk)] (sHeap W os)
  | [], drest, i, os, hd, hdd, hi, hf, hk => by
    have hi2 := drop_nil hd
    have e : i = ms.length := by omega
    refine head_go (Mc.record_Sources_L1.eq_1) ?_
    have : srcAll W [] drest = [] := rfl
    rw [this, List.append_nil] at hf
    subst hf
    rw [trunc_len (n := 3) rfl]
    simpa [e] using hk
  | b :: rest, [], i, os, hd, hdd, hi, hf, hk => by
    obtain ⟨hi2, _, _⟩ := drop_cons hd
    have := drop_nil hdd
    omega
  | b :: rest, d :: drest, i, os, hd, hdd, hi, hf, hk => by
    obtain ⟨hi2, hx, hxd⟩ := drop_cons hd
    obtain ⟨_, hdx, hdxd⟩ := drop_cons hdd
    have hok' := hok
    simp only [okR, Bool.and_eq_true, decide_eq_true_eq] at hok'
    have hrd : d.reads.length ≤ big := by
      have := List.all_eq_true.1 hok'.2 d (List.mem_of_getElem? hdx)
      simp only [okD, Bool.and_eq_true, decide_eq_true_eq] at this; exact this.1.1
    have hi' : ltB i ms.length = true := ltB_iff.2 (by omega)
    have hw := wrap1 (i := i) (by omega)
    have hia := fun h => iadr_sl (h := h) (k := .i64) (rows := ms.map rBool.enc) (i := i) (row := rBool.enc b) (size := 1) (by simp [hx]) rfl
    have hid := fun h => iadr_sl (h := h) (k := .i64) (doneRows_get hdx) d.row_len
    have hf2 : (os ++ srcReads W b d.reads) ++ srcAll W rest drest = fin := by rw [← hf]; simp [srcAll]
    have ih := Sources_L1 G a1 xs hok ms hms W a24 a25 a26 hlow fin hbig rest drest (i + 1) (os ++ srcReads W b d.reads) hxd hdxd (by omega) hf2 hk
    have hl2 : (os ++ srcReads W b d.reads).length < big := by
      have : (os ++ srcReads W b d.reads).length ≤ fin.length := by rw [← hf2]; simp
      omega
    have l2 := fun ks Q hk => Sources_L2 G (.sl (doneRows xs)) a1 (.sl (ms.map rBool.enc)) a24 a25 a26 (.sl (ms.map rBool.enc)) (.int .i64 ms.length) ⟨rfl, hlow.1, rfl, hlow.2.1, hlow.2.2.1, hlow.2.2.2, rfl, rfl⟩ i b W d.reads hrd (ks := ks) (Q := Q) (os ++ srcReads W b d.reads) hl2 d.reads 0 os rfl (by omega) rfl hk
    simp [Done.row] at hid l2
    refine head_go (Mc.record_Sources_L1.eq_1) ?_
    rw [trunc_len (n := 3) rfl]
    simp [hi', hia, hid]
    refine l2 _ _ ?_
    simp [hw]
    refine head_of ?_
    rw [trunc_len (n := 3) rfl]
    simpa using ih

theorem srcReads_len (W : List (Bs × Bool)) (b : Bool) : ∀ ts : List Touch, (srcReads W b ts).length ≤ ts.length
  | [] => Nat.le_refl _
  | t :: ts => by
    have := srcReads_len W b ts
    unfold srcReads; split <;> simp <;> omega
theorem srcAll_len (W : List (Bs × Bool)) : ∀ (ms : List Bool) (xs : List Done), (srcAll W ms xs).length ≤ readsSum xs
  | [], xs => by simp [srcAll]
  | b :: ms, [] => by simp [srcAll]
  | b :: ms, d :: xs => by
    have h1 := srcReads_len W b d.reads
    have h2 := srcAll_len W ms xs
    simp [srcAll, readsSum]; omega

theorem neededE_len (xs : List Done) (p : Bs) (h : (neededE xs p).2 = true) : (neededE xs p).1.length = xs.length := by
  unfold neededE at h ⊢
  simp only at h ⊢
  split
  · rename_i hc; rw [if_pos hc] at h; cases h
  · simp [markDown_len]

theorem Sources_ok (G : Gam) (hN : G Fn.record_needed = some (.pure F_needed)) (hS : G Fn.slices_Sort___string_string_ = some (.gen F_Sort)) (hC : G Fn.slices_Compact___string_string_ = some (.gen F_Compact)) : ∀ args r, F_Sources args = some r → wpM G Mc.record_Sources (pureQ Rs.record_Sources r) [] (frInit Ks.record_Sources args) [] := F2_ok fun xs p r h => by
  split at h
  · rename_i ho
    injection h with h; subst h
    simp only [okS, Bool.and_eq_true, decide_eq_true_eq] at ho
    rw [wpM_go, eSl_done]
    have hc : ∀ st h, opV G st h (.call Fn.record_needed) (some [.sl (doneRows xs), .str p]) = some (.tup [.sl ((neededE xs p).1.map rBool.enc), .bool (neededE xs p).2], h) := fun st h => op_call hN rfl (F2_use (A := eSl rDone) (B := eStr) (R := eTup2 (eSl rBool) eBool) (x := xs) (y := p) (if_pos ho.1)) (.inr rfl)
    have hb := ho.1
    simp only [okR, Bool.and_eq_true, decide_eq_true_eq] at hb
    have hln := neededE_len xs p
    unfold sourcesE
    generalize (neededE xs p).1 = ms at hc hln ⊢
    generalize (neededE xs p).2 = ok at hc hln ⊢
    cases ok with
    | false => simp [Mc.record_Sources, frInit, Ks.record_Sources, hc, Rs.record_Sources, eSl, rowsOf]
    | true =>
      have hms := hln rfl
      have hsl := srcAll_len (writtenM [] xs) ms xs
      generalize hfin : srcAll (writtenM [] xs) ms xs = fin at hsl
      have l0 := fun ks Q hk => Sources_L0 G (.sl (doneRows xs)) (.str p) (.sl (ms.map rBool.enc)) xs hb.1 (ks := ks) (Q := Q) (writtenM [] xs) xs 0 [] rfl (by omega) rfl rfl rfl rfl hk
      have l1 := fun ks Q hk => Sources_L1 G (.str p) xs ho.1 ms hms (writtenM [] xs) (.sl (doneRows xs)) (.int .i64 xs.length) (.int .i64 xs.length) ⟨rfl, rfl, rfl, rfl⟩ (ks := ks) (Q := Q) fin (by omega) ms xs 0 [] rfl rfl (by omega) hfin hk
      have hfb : fin.length ≤ big := by omega
      have cs : opV G false (sHeap (writtenM [] xs) fin) (.call Fn.slices_Sort___string_string_) (some [.own 2 fin.length fin.length]) = some (.tup [], [.arr 1 0 [] true, .map (encM eBool (writtenM [] xs)), .arr 1 fin.length ((sortS fin).map rStr.enc) true]) := by
        rw [op_call_gen hS]
        simp [F_Sort, decSs, decRows_de, hfb]
      have hsl2 : (sortS fin).length = fin.length := by simp [sortS]
      have cc : opV G false [.arr 1 0 [] true, .map (encM eBool (writtenM [] xs)), .arr 1 fin.length ((sortS fin).map rStr.enc) true] (.call Fn.slices_Compact___string_string_) (some [.own 2 fin.length fin.length]) = some (.own 2 fin.length (Lib.compact (sortS fin)).length, [.arr 1 0 [] true, .map (encM eBool (writtenM [] xs)), .arr 1 fin.length ((Lib.compact (sortS fin) ++ List.replicate (fin.length - (Lib.compact (sortS fin)).length) []).map rStr.enc) true]) := by
        rw [op_call_gen hC]
        simp [F_Compact, decSs, decRows_de, hfb, hsl2]
      have hro : rowsOf [.arr 1 0 [] true, .map (encM eBool (writtenM [] xs)), .arr 1 fin.length ((Lib.compact (sortS fin) ++ List.replicate (fin.length - (Lib.compact (sortS fin)).length) []).map rStr.enc) true] (.own 2 fin.length (Lib.compact (sortS fin)).length) = some ((Lib.compact (sortS fin)).map rStr.enc) := by
        simp [rowsOf]
      simp [sHeap] at l0 l1 cs cc hro
      simp [Mc.record_Sources, frInit, Ks.record_Sources, hc]
      refine l0 _ _ ?_
      simp
      refine l1 _ _ ?_
      simp [cs, cc, hro, Rs.record_Sources, eSl, hfin]
  · cases h

end Go.Proofs.YtmjdgpiofhildaaGreatDoor

namespace Go.Proofs.YtmjdgpiofhildaaGreatDoor
open Go.RowKit Go.IntWalk

theorem findP_any {α : Type} (p : α → Bool) (xs : List α) : (!ltB (findP p 0 xs) 0) = xs.any p := by
  have hn := findP_nonneg (p := p) xs 0
  cases ha : xs.any p with
  | true => simp [ltB_not.2 (hn.2 ha)]
  | false =>
    have hn' : ¬ 0 ≤ findP p 0 xs := fun k => by rw [hn.1 k] at ha; cases ha
    simp [ltB_iff.2 (Int.not_le.1 hn')]

/-- What is said of the file that is written. -/
def tailE (m : List (Bs × Bs)) (s : Done) (own : List (Bs × Bool)) : Int :=
  if touchedE s.wrote = 0 then (if (lookM s.wrote.path m).isSome || (lookM s.wrote.path own).getD false then 6 else 0) else touchedE s.wrote

theorem files_ref (m : List (Bs × Bs)) (s : Done) (before : Bs → Option Bs) (hb : ∀ p, before p = lookM p m) : ∀ (rest : List Touch) (k : Nat) (own : List (Bs × Bool)), s.reads.drop k = rest → k ≤ s.reads.length → (∀ p, (lookM p own).getD false = (s.reads.take k).any (fun u => u.path == p)) →
    refFiles before s k (rest ++ [s.wrote]) = if (readsE m own rest).1 = 0 then tailE m s (readsE m own rest).2 else (readsE m own rest).1
  | [], k, own, hd, hk, ho => by
    have hi := drop_nil hd
    have e : k = s.reads.length := by omega
    subst e
    simp only [List.nil_append, refFiles, readsE, if_true, tailE, touchedE, findP_any, eqB_self, Bool.true_and, hb, ho]
    cases c1 : pathOK s.wrote.path with
    | false => simp
    | true =>
      by_cases c2 : s.wrote.dig.length = 32
      · simp only [c2, if_true]
        rw [Bool.or_comm]
        cases h1 : lookM s.wrote.path m with
        | some d => simp
        | none => simp
      · simp [c2]
  | t :: rest, k, own, hd, hk, ho => by
    obtain ⟨hi, hx, hxd⟩ := drop_cons hd
    have hke : eqB k s.reads.length = false := eqB_not.2 (by omega)
    simp only [List.cons_append, refFiles, readsE, findP_any, hke, Bool.false_and, Bool.or_false, hb]
    rw [← ho]
    cases c1 : pathOK t.path with
    | false => simp [touchedE, c1]
    | true =>
      by_cases c2 : t.dig.length = 32
      · have c3 : touchedE t = 0 := by simp [touchedE, c1, c2]
        simp only [c2, if_true, c3]
        cases c4 : (lookM t.path own).getD false with
        | true => simp
        | false =>
          simp only [Bool.false_eq_true, if_false]
          cases c5 : (lookM t.path m).any (fun d => d != t.dig) with
          | true => simp
          | false =>
            simp only [Bool.false_eq_true, if_false]
            refine files_ref m s before hb rest (k + 1) (putM t.path true own) hxd (by omega) (fun p => ?_)
            rw [lookM_put, take_succ_of hx, List.any_append]
            by_cases hp : p = t.path
            · subst hp; simp
            · have hp' : (t.path == p) = false := by simp; exact fun e => hp e.symm
              simp [hp, ho, hp']
      · simp [touchedE, c1, c2]

theorem touchedL_append (p : Bs) (s : Done) : ∀ ys : List Done, touchedL p (ys ++ [s]) = match touchedL p ys with | some x => some x | none => touchedL p [s]
  | [] => rfl
  | d :: r => by
    simp only [List.cons_append, touchedL, touchedL_append p s r]
    cases touchIn p d.reads with
    | some x => rfl
    | none =>
      simp only []
      split
      · rfl
      · rfl

theorem touchIn_append (p : Bs) (zs : List Touch) : ∀ ys : List Touch, touchIn p (ys ++ zs) = match touchIn p ys with | some x => some x | none => touchIn p zs
  | [] => rfl
  | y :: ys => by
    simp only [List.cons_append, touchIn, touchIn_append p zs ys]
    split <;> rfl
theorem touchIn_none (p : Bs) : ∀ ys : List Touch, ys.any (fun u => u.path == p) = false → touchIn p ys = none
  | [], _ => rfl
  | y :: ys, h => by
    simp only [List.any_cons, Bool.or_eq_false_iff] at h
    simp only [touchIn, h.1, Bool.false_eq_true, if_false]
    exact touchIn_none p ys h.2

/-- Under a step without a fault each file that is read has the digest that is known. -/
theorem putReads_look (m0 : List (Bs × Bs)) : ∀ (ts ys : List Touch) (m : List (Bs × Bs)) (own : List (Bs × Bool)), (readsE m0 own ts).1 = 0 →
    (∀ q, lookM q m = match lookM q m0 with | some x => some x | none => touchIn q ys) →
    (∀ q, (lookM q own).getD false = ys.any (fun u => u.path == q)) →
    (∀ q, lookM q (putReads m ts) = match lookM q m0 with | some x => some x | none => touchIn q (ys ++ ts)) ∧ ∀ q, (lookM q (readsE m0 own ts).2).getD false = (ys ++ ts).any (fun u => u.path == q)
  | [], ys, m, own, _, h1, h2 => by simpa [putReads, readsE] using ⟨h1, h2⟩
  | t :: ts, ys, m, own, he, h1, h2 => by
    simp only [readsE] at he ⊢
    by_cases c1 : touchedE t = 0
    · simp only [c1, if_true] at he ⊢
      cases c2 : (lookM t.path own).getD false with
      | true => simp [c2] at he
      | false =>
        simp only [c2, Bool.false_eq_true, if_false] at he ⊢
        cases c3 : (lookM t.path m0).any (fun d => d != t.dig) with
        | true => simp [c3] at he
        | false =>
          simp only [c3, Bool.false_eq_true, if_false] at he ⊢
          have hn := touchIn_none t.path ys (by rw [← h2]; exact c2)
          have ih := putReads_look m0 ts (ys ++ [t]) (putM t.path t.dig m) (putM t.path true own) he (fun q => ?_) (fun q => ?_)
          · simpa [putReads] using ih
          · rw [lookM_put, touchIn_append]
            by_cases hq : q = t.path
            · subst hq
              simp only [if_true, hn, touchIn, BEq.rfl]
              cases h3 : lookM t.path m0 with
              | none => rfl
              | some d => simp [h3] at c3; rw [c3]
            · have hq' : (t.path == q) = false := by simp; exact fun e => hq e.symm
              simp only [hq, if_false, h1, touchIn, hq', Bool.false_eq_true]
              cases lookM q m0 with
              | none => cases touchIn q ys <;> rfl
              | some d => rfl
          · rw [lookM_put, List.any_append]
            by_cases hq : q = t.path
            · subst hq; simp
            · have hq' : (t.path == q) = false := by simp; exact fun e => hq e.symm
              simp [hq, h2, hq']
    · simp [c1] at he

theorem refFrom_eq (xs : List Done) : ∀ (rest : List Done) (i : Nat) (m : List (Bs × Bs)) (prev : Option Done), xs.drop i = rest → prev = (if i = 0 then none else xs[i - 1]?) → (∀ p, lookM p m = touchedL p (xs.take i)) →
    checkFrom m prev rest = refFrom xs i rest
  | [], i, m, prev, hd, hp, hm => rfl
  | s :: rest, i, m, prev, hd, hp, hm => by
    obtain ⟨hi, hx, hxd⟩ := drop_cons hd
    have hf : refFiles (fun p => touchedL p (xs.take i)) s 0 (s.reads ++ [s.wrote]) = filesE m s := by
      rw [files_ref m s _ (fun p => (hm p).symm) s.reads 0 [] rfl (by omega) (fun p => by simp [lookM])]
      rfl
    simp only [checkFrom, refFrom, stepE, hf, hp]
    cases c1 : rangeBad s with
    | true => simp
    | false =>
      simp only [Bool.false_eq_true, if_false]
      cases c2 : (if i = 0 then none else xs[i - 1]?).any (orderBad · s) with
      | true => simp
      | false =>
        simp only [Bool.false_eq_true, if_false]
        cases c3 : countBad s with
        | true => simp
        | false =>
          simp only [Bool.false_eq_true, if_false]
          by_cases c4 : filesE m s = 0
          · simp only [c4, if_true]
            refine refFrom_eq xs rest (i + 1) _ (some s) hxd (by simp [hx]) (fun p => ?_)
            -- what is known behind the step
            have h0 : (readsE m [] s.reads).1 = 0 := by
              by_cases h : (readsE m [] s.reads).1 = 0
              · exact h
              · simp [filesE, h] at c4
            obtain ⟨g1, g2⟩ := putReads_look m s.reads [] m [] h0 (fun q => by cases lookM q m <;> rfl) (fun q => by simp [lookM])
            simp only [filesE, h0, if_true] at c4
            have h1 : touchedE s.wrote = 0 := by
              by_cases h : touchedE s.wrote = 0
              · exact h
              · simp [h] at c4
            simp only [h1, if_true] at c4
            have h2 : (lookM s.wrote.path m).isSome = false ∧ (lookM s.wrote.path (readsE m [] s.reads).2).getD false = false := by
              cases ha : (lookM s.wrote.path m).isSome <;> cases hb : (lookM s.wrote.path (readsE m [] s.reads).2).getD false <;> simp [ha, hb] at c4 ⊢
            rw [take_succ_of hx, touchedL_append, ← hm, lookM_put, g1]
            simp only [List.nil_append] at g2 ⊢
            by_cases hq : p = s.wrote.path
            · subst hq
              have e1 : lookM s.wrote.path m = none := by simpa using h2.1
              have e2 := touchIn_none s.wrote.path s.reads (by rw [← g2]; exact h2.2)
              simp [e1, touchedL, e2]
            · have hq' : (s.wrote.path == p) = false := by simp; exact fun e => hq e.symm
              simp only [hq, if_false, touchedL, hq', Bool.false_eq_true]
              cases lookM p m with
              | some x => rfl
              | none => cases touchIn p s.reads <;> rfl
          · simp [c4]

theorem check_eq (xs : List Done) : checkE xs = refCheckE xs := by
  unfold checkE refCheckE
  split
  · rfl
  · exact refFrom_eq xs xs 0 [] none rfl rfl (fun p => rfl)

end Go.Proofs.YtmjdgpiofhildaaGreatDoor

namespace Go.Proofs.YtmjdgpiofhildaaGreatDoor
open Go.RowKit Go.IntWalk

theorem ex_ok : okS (exampleD 98) = true := by kernel_rfl
theorem ex_okR : okR (exampleD 98) = true := by kernel_rfl
theorem ex_check : checkE (exampleD 98) = 0 := by kernel_rfl
theorem ex_writer : writerE (exampleD 98) [97, 47, 98] = 1 := by kernel_rfl
theorem ex_needed : marked 0 (neededE (exampleD 98) [97, 47, 98]).1 = [0, 1] := by kernel_rfl
theorem ex_src : srcAll (writtenM [] (exampleD 98)) (neededE (exampleD 98) [97, 47, 98]).1 (exampleD 98) = [[97, 47, 120]] := by kernel_rfl
theorem ex_snd : (neededE (exampleD 98) [97, 47, 98]).2 = true := by kernel_rfl
theorem ex_sources : sourcesE (exampleD 98) [97, 47, 98] = [[97, 47, 120]] := by
  unfold sourcesE
  rw [ex_snd, ex_src]
  simp only [if_true, sortS, List.mergeSort_singleton]
  kernel_rfl
theorem ex_affected : affectedE (exampleD 98) [[97, 47, 111]] = [1] := by kernel_rfl
theorem ex_div : divFrom 0 (exampleD 98) (exampleD 99) = 1 := by kernel_rfl
theorem ex_reads : okReads (exampleD 98) = true := by kernel_rfl
theorem ex_len : (exampleD 98).length = 2 ∧ (exampleD 99).length = 2 := ⟨rfl, rfl⟩

def F_awake : List AV → Option AV := F0 (.bool true)

theorem awake_ok (G : Gam) (hE : G Fn.licitlaw17_example = some (.pure F_example)) (hC : G Fn.record_Check = some (.pure F_Check)) (hW : G Fn.record_Writer = some (.pure F_Writer)) (hN : G Fn.record_Needed = some (.pure F_Needed)) (hI : G Fn.slices_Equal___int_int_ = some (.pure F_EqualI))
    (hS : G Fn.record_Sources = some (.pure F_Sources)) (hQ : G Fn.slices_Equal___string_string_ = some (.pure F_EqualS)) (hA : G Fn.record_Affected = some (.pure F_Affected)) (hD : G Fn.record_Diverge = some (.pure F_Diverge)) : ∀ args r, F_awake args = some r → wpM G Mc.licitlaw17_awake (pureQ Rs.licitlaw17_awake r) [] (frInit Ks.licitlaw17_awake args) [] := F0_ok (by
  rw [wpM_go]
  have cE : ∀ st h (c : UInt8), opV G st h (.call Fn.licitlaw17_example) (some [.str [c]]) = some (.sl (doneRows (exampleD c)), h) := fun st h c => op_call hE rfl (F1_use (A := eStr) (R := eSl rDone) (x := [c]) rfl) (.inr rfl)
  have cC : ∀ st h, opV G st h (.call Fn.record_Check) (some [.sl (doneRows (exampleD 98))]) = some (.int .i64 0, h) := fun st h => op_call hC rfl (F1_use (A := eSl rDone) (R := eInt) (x := exampleD 98) (r := 0) (by rw [if_pos ex_okR, ex_check])) (.inl rfl)
  have cW : ∀ st h, opV G st h (.call Fn.record_Writer) (some [.sl (doneRows (exampleD 98)), .str [97, 47, 98]]) = some (.int .i64 1, h) := fun st h => op_call hW rfl (F2_use (A := eSl rDone) (B := eStr) (R := eInt) (x := exampleD 98) (y := [97, 47, 98]) (r := 1) (by rw [if_pos ex_okR, ex_writer])) (.inl rfl)
  have cN : ∀ st h, opV G st h (.call Fn.record_Needed) (some [.sl (doneRows (exampleD 98)), .str [97, 47, 98]]) = some (.sl [[.int .i64 0], [.int .i64 1]], h) := fun st h => op_call hN rfl (F2_use (A := eSl rDone) (B := eStr) (R := eSl rInt) (x := exampleD 98) (y := [97, 47, 98]) (r := [0, 1]) (by rw [if_pos ex_okR, ex_needed])) (.inr rfl)
  have cI : ∀ st h, opV G st h (.call Fn.slices_Equal___int_int_) (some [.sl [[.int .i64 0], [.int .i64 1]], .tsl [[.int .i64 0], [.int .i64 1]]]) = some (.bool true, h) := fun st h => op_call hI (us := [.sl [[.int .i64 0], [.int .i64 1]], .sl [[.int .i64 0], [.int .i64 1]]]) rfl rfl (.inl rfl)
  have cS : ∀ st h, opV G st h (.call Fn.record_Sources) (some [.sl (doneRows (exampleD 98)), .str [97, 47, 98]]) = some (.sl [[.str [97, 47, 120]]], h) := fun st h => op_call hS rfl (F2_use (A := eSl rDone) (B := eStr) (R := eSl rStr) (x := exampleD 98) (y := [97, 47, 98]) (r := [[97, 47, 120]]) (by rw [if_pos ex_ok, ex_sources])) (.inr rfl)
  have cQ : ∀ st h, opV G st h (.call Fn.slices_Equal___string_string_) (some [.sl [[.str [97, 47, 120]]], .tsl [[.str [97, 47, 120]]]]) = some (.bool true, h) := fun st h => op_call hQ (us := [.sl [[.str [97, 47, 120]]], .sl [[.str [97, 47, 120]]]]) rfl rfl (.inl rfl)
  have cA : ∀ st h, opV G st h (.call Fn.record_Affected) (some [.sl (doneRows (exampleD 98)), .tsl [[.str [97, 47, 111]]]]) = some (.sl [[.int .i64 1]], h) := fun st h => op_call hA (us := [.sl (doneRows (exampleD 98)), .sl [[.str [97, 47, 111]]]]) rfl (F2_use (A := eSl rDone) (B := eSl rStr) (R := eSl rInt) (x := exampleD 98) (y := [[97, 47, 111]]) (r := [1]) (by rw [if_pos ⟨ex_okR, by decide⟩, ex_affected])) (.inr rfl)
  have cI2 : ∀ st h, opV G st h (.call Fn.slices_Equal___int_int_) (some [.sl [[.int .i64 1]], .tsl [[.int .i64 1]]]) = some (.bool true, h) := fun st h => op_call hI (us := [.sl [[.int .i64 1]], .sl [[.int .i64 1]]]) rfl rfl (.inl rfl)
  have cD : ∀ st h, opV G st h (.call Fn.record_Diverge) (some [.sl (doneRows (exampleD 98)), .sl (doneRows (exampleD 99))]) = some (.int .i64 1, h) := fun st h => op_call hD rfl (by simp only [F_Diverge, dec_doneRows]; rw [if_pos ⟨by rw [ex_len.1]; decide, by rw [ex_len.2]; decide, ex_reads⟩, ex_div]) (.inl rfl)
  simp [Mc.licitlaw17_awake, frInit, Ks.licitlaw17_awake, cE, cC, cW, cN, cI, cS, cQ, cA, cI2, cD, sizesOk, onesOk, Rs.licitlaw17_awake])

def F_RecordChecks : List AV → Option AV := F1 (eSl rDone) eBool fun r => if okS r then some true else none
theorem RecordChecks_ok (G : Gam) (hA : G Fn.licitlaw17_awake = some (.pure F_awake)) (hF : G Fn.licitref17_Few = some (.pure F_Few)) (hC : G Fn.record_Check = some (.pure F_Check)) (hR : G Fn.licitref17_Check = some (.pure F_refCheck)) : ∀ args r, F_RecordChecks args = some r → wpM G Mc.licitlaw17_RecordChecks (pureQ Rs.licitlaw17_RecordChecks r) [] (frInit Ks.licitlaw17_RecordChecks args) [] := F1_ok fun xs r h => by
  split at h
  · rename_i ho
    injection h with h; subst h
    have ho' := ho
    simp only [okS, Bool.and_eq_true, decide_eq_true_eq] at ho'
    rw [wpM_go, eSl_done]
    have cA : ∀ st h, opV G st h (.call Fn.licitlaw17_awake) (some []) = some (.bool true, h) := fun st h => op_call hA rfl rfl (.inl rfl)
    have cF : ∀ st h, opV G st h (.call Fn.licitref17_Few) (some [.sl (doneRows xs)]) = some (.bool (fewE xs), h) := fun st h => op_call hF rfl (F1_use (A := eSl rDone) (R := eBool) (x := xs) (if_pos ho'.1)) (.inl rfl)
    have cC : ∀ st h, opV G st h (.call Fn.record_Check) (some [.sl (doneRows xs)]) = some (.int .i64 (checkE xs), h) := fun st h => op_call hC rfl (F1_use (A := eSl rDone) (R := eInt) (x := xs) (if_pos ho'.1)) (.inl rfl)
    have cR : ∀ st h, opV G st h (.call Fn.licitref17_Check) (some [.sl (doneRows xs)]) = some (.int .i64 (checkE xs), h) := fun st h => op_call hR rfl (F1_use (A := eSl rDone) (R := eInt) (x := xs) (r := checkE xs) (by rw [if_pos ho'.1, check_eq])) (.inl rfl)
    cases hf : fewE xs <;> simp [Mc.licitlaw17_RecordChecks, frInit, Ks.licitlaw17_RecordChecks, cA, cF, cC, cR, hf, Rs.licitlaw17_RecordChecks]
  · cases h

end Go.Proofs.YtmjdgpiofhildaaGreatDoor
