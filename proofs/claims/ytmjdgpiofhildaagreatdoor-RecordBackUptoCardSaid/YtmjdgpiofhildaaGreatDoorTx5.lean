/- record.Parse: the lines, one by one. -/
import Derived.Test.YtmjdgpiofhildaaGreatDoorTx4
import Derived.Test.YtmjdgpiofhildaaGreatDoorRmC
namespace Go.Proofs.YtmjdgpiofhildaaGreatDoor
open Go.RowKit Go.IntWalk

def wRd : Bs := [114, 101, 97, 100]
def wWr : Bs := [119, 114, 105, 116, 101]
/-- The first word. -/
def wd0 (ws : List Bs) : Bs := ws.headD []

/-- The rest of the lines, from the n-th on; dn: the steps that are done; o: the one that is open. -/
def parseL (st : List Bs → Hd × Bool) (fl : List Bs → Touch × Bool) (chk : List Done → Int) : List Bs → Nat → List Done → Option (Hd × List Touch) → List Done × Int × Int
  | [], n, _, _ => ([], n, 4)
  | [z], n, dn, o => if z = [] then (if o.isSome then ([], n, 13) else if chk dn = 0 then (dn, -1, 0) else ([], -1, chk dn)) else ([], n, 4)
  | l :: l2 :: rest, n, dn, o => match o with
    | none => if (st (splitBy 32 l)).2 then parseL st fl chk (l2 :: rest) (n + 1) dn (some ((st (splitBy 32 l)).1, [])) else ([], n, 4)
    | some (hd, rs) =>
      if (fl (splitBy 32 l)).2 && (wd0 (splitBy 32 l) == wRd) then parseL st fl chk (l2 :: rest) (n + 1) dn (some (hd, rs ++ [(fl (splitBy 32 l)).1]))
      else if (fl (splitBy 32 l)).2 && (wd0 (splitBy 32 l) == wWr) && !rs.isEmpty then parseL st fl chk (l2 :: rest) (n + 1) (dn ++ [mkDone hd rs (fl (splitBy 32 l)).1]) none
      else ([], n, 4)

def parseE (s : Bs) : List Done × Int × Int := parseL hdE fileE checkE (splitBy 10 s) 0 [] none

theorem index_one (c : UInt8) : ∀ s : Bs, (c ∈ s → ∃ a b, s = a ++ c :: b ∧ c ∉ a ∧ Lib.cut s [c] = (a, b, true)) ∧ (c ∉ s → Lib.cut s [c] = (s, [], false)) := by
  intro s
  refine ⟨fun h => ?_, fun h => ?_⟩
  · rcases Lib.index_spec s [c] with ⟨h1, h2⟩ | ⟨i, h1, h2, h3, h4⟩
    · obtain ⟨j, hj, hjc⟩ := List.mem_iff_getElem.1 h
      have := h2 j (by omega)
      simp only [Lib.occAt, List.drop_eq_getElem_cons hj, hjc] at this
      simp at this
    · have hr := Lib.index_room s [c] (by omega)
      rw [h1] at hr
      have hi : i < s.length := by simp at hr; omega
      have hd := List.drop_eq_getElem_cons hi
      have hc : s[i] = c := by
        simp only [Lib.occAt, hd] at h3
        have h5 : c = s[i] := by simpa [List.isPrefixOf] using h3
        exact h5.symm
      refine ⟨s.take i, s.drop (i + 1), ?_, ?_, ?_⟩
      · conv => lhs; rw [← List.take_append_drop i s, hd, hc]
      · intro hm
        obtain ⟨j, hj, hjc⟩ := List.mem_iff_getElem.1 hm
        have hj2 : j < i := by simp at hj; omega
        have := h4 j hj2
        simp only [List.getElem_take] at hjc
        simp only [Lib.occAt, List.drop_eq_getElem_cons (show j < s.length by omega), hjc] at this
        simp at this
      · unfold Lib.cut
        rw [if_pos (by rw [h1]; omega), h1]; simp
  · rcases Lib.index_spec s [c] with ⟨h1, h2⟩ | ⟨i, h1, h2, h3, h4⟩
    · unfold Lib.cut
      rw [if_neg (by rw [h1]; omega)]
    · exfalso
      have hr := Lib.index_room s [c] (by omega)
      rw [h1] at hr
      have hi : i < s.length := by simp at hr; omega
      have hd := List.drop_eq_getElem_cons hi
      simp only [Lib.occAt, hd] at h3
      have hc : c = s[i] := by simpa [List.isPrefixOf] using h3
      exact h (by rw [hc]; exact List.getElem_mem hi)

theorem splitBy_mid (c : UInt8) : ∀ (a b : Bs), c ∉ a → splitBy c (a ++ c :: b) = a :: splitBy c b
  | [], b, _ => by simp [splitBy]
  | x :: a, b, h => by
    have hx : x ≠ c := fun e => h (by simp [e])
    have := splitBy_mid c a b (fun e => h (by simp [e]))
    simp [splitBy, hx, this]
theorem splitBy_none (c : UInt8) : ∀ (a : Bs), c ∉ a → splitBy c a = [a]
  | [], _ => by simp [splitBy]
  | x :: a, h => by
    have hx : x ≠ c := fun e => h (by simp [e])
    have := splitBy_none c a (fun e => h (by simp [e]))
    simp [splitBy, hx, this]
theorem splitBy_mem (c : UInt8) : ∀ (s : Bs) (w : Bs), w ∈ splitBy c s → w.length ≤ s.length
  | [], w, h => by simp [splitBy] at h; subst h; simp
  | b :: r, w, h => by
    have ih := splitBy_mem c r
    unfold splitBy at h
    split at h
    · rcases List.mem_cons.1 h with rfl | h
      · simp
      · have := ih w h; simp; omega
    · cases hs : splitBy c r with
      | nil => exact absurd hs (splitBy_ne c r)
      | cons x xs =>
        simp only [hs] at h
        rcases List.mem_cons.1 h with rfl | h
        · have := ih x (by rw [hs]; simp); simp; omega
        · have := ih w (by rw [hs]; simp [h]); simp; omega
theorem okW_split {s : Bs} (h : s.length < 4294967281) : okW (splitBy 32 s) = true := by
  simp only [okW, Bool.and_eq_true, decide_eq_true_eq, List.all_eq_true]
  have := splitBy_len 32 s
  exact ⟨by unfold big; omega, fun w hw => by have := splitBy_mem 32 s w hw; unfold big; omega⟩

/-- What has been read so far is small. -/
def OkS (n : Nat) (dn : List Done) (o : Option (Hd × List Touch)) : Prop := dn.length ≤ n ∧ (∀ d ∈ dn, okD d = true) ∧ ∀ hd rs, o = some (hd, rs) → rs.length ≤ n ∧ ∀ t ∈ rs, okT t = true

theorem fileE_okT {s : Bs} (h : s.length < 4294967281) : okT (fileE (splitBy 32 s)).1 = true := by
  have hm := splitBy_mem 32 s
  generalize splitBy 32 s = ws at hm
  unfold fileE
  split
  · rename_i p hh
    split
    · rfl
    · have := hm p (by simp); simp only [okT, decide_eq_true_eq]; omega
  · rfl

section
variable {G : Gam} {st : Bool}
theorem op_settle_call {h : Heap} {f : FuncId} {vs : List AV} : opV G st h (.pre [.settle] (.call f)) (some vs) = (settleL h vs).bind fun h1 => opV G false h1 (.call f) (some vs) := by
  have e : opV G st h (.pre [.settle] (.call f)) (some vs) = evalAll G h (.pre [.settle] (.call f)) vs := by simp only [opV, AO.loud, AO.quiet, Bool.not_false, Bool.not_true, Bool.and_false, Bool.false_eq_true, if_false]
  rw [e]
  simp only [evalAll, preAVs, preAV]
  cases settleL h vs <;> rfl
theorem ph_len {b0 b3 : Blk} {ex : Heap} : (PHeap b0 b3 ex).length = ex.length + 4 := rfl
theorem ph_app {b0 b3 : Blk} {ex y : Heap} : PHeap b0 b3 ex ++ y = PHeap b0 b3 (ex ++ y) := rfl
theorem ph_var {b0 b3 : Blk} {zs xs : List AV} {n : Nat} (h1 : zs.length = n) (h2 : xs.length = n) (h3 : 0 < n) (h4 : xs.all oneC = true) :
    opV G st (PHeap b0 b3 [.cells zs]) (.pre [.nest] (.st n)) (some [.ptr 4 0, .agg xs]) = some (.junk, PHeap b0 b3 [.cells xs]) := by
  rw [opV_pre rfl]
  simp only [preAVs, preAV, Option.bind_some]
  rw [op_st]
  have hg : (PHeap b0 b3 [.cells zs])[4]? = some (.cells zs) := rfl
  have hs : setAt zs 0 xs = xs := by
    rw [setAt_splice xs zs 0 (by omega)]; simp; omega
  simp only [stAV, AV.cells, h2, h3, h4, and_self, if_true, hg, hs, Nat.zero_add, h1, Nat.le_refl]
  rfl
theorem ph_ldvar {b0 b3 : Blk} {xs : List AV} {n : Nat} (h2 : xs.length = n) : loadAV n true (PHeap b0 b3 [.cells xs]) (.ptr 4 0) = some (.agg xs) := by
  have hg : (PHeap b0 b3 [.cells xs])[4]? = some (.cells xs) := rfl
  simp only [loadAV, hg, cut, List.drop_zero]
  rw [List.take_of_length_le (by omega)]
  simp [mkVal, h2]
theorem op_bslK_hd {h : Heap} (d : Hd) : opV G st h (.bslK 6) (some [.agg (d.row .nils)]) = some (.tsl [d.row .nils], h) := by
  rw [opV_eff rfl]
  simp [evalEff, frzKL, viewKL, viewK, Hd.row, AV.cells, sizesOk, onesOk, oneC, freezeAll, ownsL, owns]
theorem rows_nil0 {b0 b3 : Blk} : rowsOf (PHeap b0 b3 [.arr 2 0 [] true, .arr 6 0 [] true]) (.own 5 0 0) = some [] := rfl
theorem rows_nil1 {b0 b3 : Blk} {xs : List AV} : rowsOf (PHeap b0 b3 [.cells xs, .arr 2 0 [] true, .arr 6 0 [] true]) (.own 6 0 0) = some [] := rfl
theorem op_newnil_sp {h : Heap} : opV G st h (.pre [.spare 2] (.newnil 6)) (some []) = some (.own (h.length + 1) 0 0, h ++ [.arr 2 0 [] true] ++ [.arr 6 0 [] true]) := by
  rw [opV_pre rfl]
  simp [preAVs, preAV]
end

theorem ph_trunc {dn : List Done} {o : Option (Hd × List Touch)} {b0 b3 : Blk} {k : Nat} {ex : Heap} {fr : List (Nat × AV)} (hp : PH dn o b0 b3 k) (hf : lowFr 4 fr = true) : trunc 4 fr (PHeap b0 b3 ex) = PHeap b0 b3 [] := by
  unfold trunc
  have ht : (PHeap b0 b3 ex).take 4 = PHeap b0 b3 [] := rfl
  have hl : lowH 4 (PHeap b0 b3 []) = true := by
    obtain ⟨h1, h2⟩ := hp.low
    simp only [PHeap, lowH, h1, h2, Bool.true_and, Bool.and_true]
    rfl
  rw [ht, hf, hl]; rfl

def F_Parse : List AV → Option AV
  | [.str s] => if s.length < 4294967281 then some (.tup [.sl (doneRows (parseE s).1), .int .i64 (parseE s).2.1, .int .i64 (parseE s).2.2]) else none
  | _ => none

theorem parse_L0 (G : Gam) (hC : G Fn.strings_Cut = some (.pure F_Cut)) (hS : G Fn.strings_Split = some (.pure F_Split)) (hst : G Fn.record_step = some (.pure F_stepP)) (hfl : G Fn.record_file = some (.pure F_file)) (fin : List Done × Int × Int) {ks : List MK} (a16 : AV) (ha : low 4 a16 = true) :
    ∀ (m : Nat) (s : Bs) (n : Nat) (dn : List Done) (o : Option (Hd × List Touch)) (b0 b3 : Blk) (k : Nat) (ex : Heap) (v8 v9 v10 v11 v12 v13 v14 v15 : AV), s.length ≤ m → PH dn o b0 b3 k → s.length + n < 4294967281 → k ≤ n → OkS n dn o →
    fin = parseL hdE fileE checkE (splitBy 10 s) n dn o →
    (∀ n' dn' o' b0' b3' k' ex' env, fin = (if o'.isSome then ([], (n' : Int), 13) else if checkE dn' = 0 then (dn', -1, 0) else ([], -1, checkE dn')) → PH dn' o' b0' b3' k' → OkS n' dn' o' → n' < 4294967281 →
      exM G .normal ks (pureQ Rs.record_Parse (.tup [.sl (doneRows fin.1), .int .i64 fin.2.1, .int .i64 fin.2.2])) env [(0, .str []), (2, .own 1 0 0), (3, .int .i64 0), (4, .int .i64 0), (5, .own 3 k' k'), (6, .int .i64 n'), (7, .bool o'.isSome), (8, .junk), (9, .junk), (10, .junk), (11, .junk), (12, .junk), (13, .junk), (14, .junk), (15, .junk), (16, a16)] (PHeap b0' b3' ex')) →
    headM G [8, 9, 10, 11, 12, 13, 14, 15] Mc.record_Parse_L0 4 (.blk 0 :: ks) (pureQ Rs.record_Parse (.tup [.sl (doneRows fin.1), .int .i64 fin.2.1, .int .i64 fin.2.2]))
      [(0, .str s), (2, .own 1 0 0), (3, .int .i64 0), (4, .int .i64 0), (5, .own 3 k k), (6, .int .i64 n), (7, .bool o.isSome), (8, v8), (9, v9), (10, v10), (11, v11), (12, v12), (13, v13), (14, v14), (15, v15), (16, a16)] (PHeap b0 b3 ex)
  | m, s, n, dn, o, b0, b3, k, ex, v8, v9, v10, v11, v12, v13, v14, v15, hm, hp, hsz, hkn, hok, hr, hk => by
    refine head_go (Mc.record_Parse_L0.eq_1) ?_
    rw [ph_trunc hp (by simp [junkAll, lowFr, low, ha])]
    by_cases hs0 : s = []
    · subst hs0
      have hr' : fin = (if o.isSome then ([], (n : Int), 13) else if checkE dn = 0 then (dn, -1, 0) else ([], -1, checkE dn)) := by rw [hr]; simp [splitBy, parseL]
      simp
      exact hk n dn o b0 b3 k [] _ hr' hp hok (by omega)
    · have hsb : (s == []) = false := by simpa using hs0
      have c1 : ∀ st h, opV G st h (.call Fn.strings_Cut) (some [.str s, .str [10]]) = some (.tup [.str (Lib.cut s [10]).1, .str (Lib.cut s [10]).2.1, .bool (Lib.cut s [10]).2.2], h) := fun st h => op_call hC (us := [.str s, .str [10]]) rfl (by
        simp only [F_Cut]; rw [if_pos (by omega)]) (.inl rfl)
      by_cases hin : (10 : UInt8) ∈ s
      · obtain ⟨l, rest, rfl, hl, hcut⟩ := (index_one 10 s).1 hin
        rw [hcut] at c1
        simp only at c1
        have hsp := splitBy_mid 10 l rest hl
        simp only [List.length_append, List.length_cons] at hm hsz
        obtain ⟨l2, tl, hl2⟩ : ∃ l2 tl, splitBy 10 rest = l2 :: tl := by
          cases h : splitBy 10 rest with
          | nil => exact absurd h (splitBy_ne 10 rest)
          | cons x xs => exact ⟨x, xs, rfl⟩
        rw [hsp, hl2] at hr
        have c2 : ∀ st h, opV G st h (.call Fn.strings_Split) (some [.str l, .str [32]]) = some (.sl ((splitBy 32 l).map rStr.enc), h) := fun st h => op_call hS rfl (F2_use (A := eStr) (B := eStr) (R := eSl rStr) (x := l) (y := [32]) (by simp only [show l.length < 4294967281 by omega, if_true])) (.inr rfl)
        have how := okW_split (s := l) (by omega)
        obtain ⟨m, rfl⟩ : ∃ m', m = m' + 1 := ⟨m - 1, by omega⟩
        have hw : IntKind.i64.wrap ((n : Int) + 1) = ((n + 1 : Nat) : Int) := wrap1 (by unfold big; omega)
        cases o with
        | none =>
          have c3 : ∀ st h, opV G st h (.call Fn.record_step) (some [.sl ((splitBy 32 l).map rStr.enc)]) = some (.tup [.agg ((hdE (splitBy 32 l)).1.row .nils), .bool (hdE (splitBy 32 l)).2], h) := fun st h => op_call hst rfl (by
            have hd := (eSl rStr).de (splitBy 32 l)
            simp only [F_stepP]
            rw [show AV.sl ((splitBy 32 l).map rStr.enc) = (eSl rStr).enc (splitBy 32 l) from rfl, hd]
            simp [how]) (.inr rfl)
          simp only [parseL] at hr
          have st1 := ph_var (G := G) (st := false) (b0 := b0) (b3 := b3) (zs := [.int .i64 0, .int .i64 0, .int .i64 0, .nils, .str [], .str []]) (xs := (hdE (splitBy 32 l)).1.row .nils) (n := 6) rfl rfl (by omega) rfl
          cases hb : (hdE (splitBy 32 l)).2 with
          | false =>
            rw [hb] at hr c3
            have hr' : fin = ([], (n : Int), 4) := by simpa using hr
            subst hr'
            simp [hsb, op_settle_call, settleL, settle1, c1, c2, c3, op_newnil_sp, ph_len, ph_app, st1, rows_nil1, pureQ, Rs.record_Parse, doneRows]
          | true =>
            rw [hb] at hr c3
            simp only [if_true] at hr
            obtain ⟨b0', b3', hop, hp'⟩ := ph_open (G := G) (st := false) [.cells ((hdE (splitBy 32 l)).1.row .nils)] (hdE (splitBy 32 l)).1 hp (by unfold big; omega)
            have ld := ph_ldvar (b0 := b0) (b3 := b3) (xs := (hdE (splitBy 32 l)).1.row .nils) (n := 6) rfl
            have bk := fun h => op_bslK_hd (G := G) (st := false) (h := h) (hdE (splitBy 32 l)).1
            have ih := parse_L0 G hC hS hst hfl fin (ks := ks) a16 ha m rest (n + 1) dn (some ((hdE (splitBy 32 l)).1, [])) b0' b3' (k + 1) [.cells ((hdE (splitBy 32 l)).1.row .nils)]
              (.str l) (.str rest) (.bool true) (.sl ((splitBy 32 l).map rStr.enc)) (.ptr 4 0) (.bool true) .junk .junk (by omega) hp' (by omega) (by omega) ⟨by have := hok.1; omega, hok.2.1, fun hd rs e => by injection e with e; injection e with e1 e2; subst e2; simp⟩ (by rw [hr, hl2]) hk
            generalize (hdE (splitBy 32 l)).1 = hd0 at *
            simp [hsb, op_settle_call, settleL, settle1, c1, c2, c3, ph_len, ph_app, st1, ld, bk, hop, hw, -loadAV]
            exact ih
        | some q =>
          obtain ⟨hd, rs⟩ := q
          have hok3 := hok.2.2 hd rs rfl
          have c3 : ∀ st h, opV G st h (.call Fn.record_file) (some [.sl ((splitBy 32 l).map rStr.enc)]) = some (.tup [.agg (fileE (splitBy 32 l)).1.row, .bool (fileE (splitBy 32 l)).2], h) := fun st h => op_call hfl rfl (by
            have := F1_use (A := eSl rStr) (R := eTup2 (eAgg rTouch) eBool) (f := fun ws => if okW ws then some (fileE ws) else none) (x := splitBy 32 l) (r := fileE (splitBy 32 l)) (by simp only [how, if_true])
            exact this) (.inr rfl)
          simp only [parseL] at hr
          have hft := fileE_okT (s := l) (by omega)
          have st1 := ph_var (G := G) (st := false) (b0 := b0) (b3 := b3) (zs := [.str [], .str []]) (xs := (fileE (splitBy 32 l)).1.row) (n := 2) rfl rfl (by omega) rfl
          obtain ⟨ws, hws⟩ : ∃ ws, ws = splitBy 32 l := ⟨_, rfl⟩
          have hne : ws ≠ [] := by rw [hws]; exact splitBy_ne 32 l
          rw [← hws] at c2 c3 hr hft st1
          obtain ⟨⟨t, ok⟩, hfe⟩ : ∃ q, q = fileE ws := ⟨_, rfl⟩
          rw [← hfe] at c3 hr hft st1
          simp only at c3 hr hft st1
          obtain ⟨w, wr, hwr⟩ : ∃ w wr, ws = w :: wr := by
            cases ws with
            | nil => exact absurd rfl hne
            | cons w wr => exact ⟨w, wr, rfl⟩
          have hw0 : wd0 ws = w := by rw [hwr]; rfl
          rw [hw0] at hr
          obtain ⟨hkd, had⟩ := ph_addr [.cells t.row] hp
          have ld14 := ph_ldvar (b0 := b0) (b3 := b3) (xs := t.row) (n := 2) rfl
          have hkk : IntKind.i64.wrap ((k : Int) - 1) = dn.length := by rw [hkd, show ((dn.length + 1 : Nat) : Int) - 1 = (dn.length : Int) by omega]; exact i64_in _ ⟨by omega, by omega⟩
          have hi0 : ∀ h, iadrAV 1 h (.sl (ws.map rStr.enc)) (.int .i64 0) = some (.fptr [.str w] 0) := fun h => by rw [hwr]; simp [iadrAV, rStr, rOne, eStr]
          cases ok with
          | false =>
            have hr' : fin = ([], (n : Int), 4) := by simpa using hr
            subst hr'
            simp [hsb, op_settle_call, settleL, settle1, c1, c2, c3, op_newnil_sp, ph_len, ph_app, st1, rows_nil1, pureQ, Rs.record_Parse, doneRows, hkk, had]
          | true =>
            simp only [Bool.true_and] at hr
            have nc : ∀ st h (l v i o : Nat), opV G st h .nilck (some [.eptr l v i o]) = some (.eptr l v i o, h) := fun st h l v i o => by rw [opV_quiet rfl]; rfl
            have bs : ∀ st h, opV G st h (.bsl false 2) (some [.agg t.row]) = some (.tsl [t.row], h) := fun st h => by rw [op_bsl rfl]; simp [viewL, view, Touch.row, AV.cells, sizesOk, onesOk, oneC]
            by_cases hw1 : w = wRd
            · have hwb : (w == wRd) = true := by simpa using hw1
              have hwb' : (w == [114, 101, 97, 100]) = true := hwb
              rw [hwb] at hr
              simp only [if_true] at hr
              obtain ⟨x, x', b0', b3', r1, r2, r3, r4⟩ := ph_read (G := G) [.cells t.row] t hp (by unfold big; omega)
              have ih := parse_L0 G hC hS hst hfl fin (ks := ks) a16 ha m rest (n + 1) dn (some (hd, rs ++ [t])) b0' b3' k [.cells t.row]
                (.str l) (.str rest) (.bool true) (.sl (ws.map rStr.enc)) .junk .junk (.ptr 4 0) (.eptr 3 k dn.length 0) (by omega) r4 (by omega) (by omega)
                ⟨by have := hok.1; omega, hok.2.1, fun hd2 rs2 e => by
                  injection e with e; injection e with e1 e2; subst e2
                  refine ⟨by simp; omega, fun u hu => ?_⟩
                  rcases List.mem_append.1 hu with hu | hu
                  · exact hok3.2 u hu
                  · simp at hu; subst hu; exact hft⟩ (by rw [hr, hl2]) hk
              simp [hsb, op_settle_call, settleL, settle1, c1, c2, c3, ph_len, ph_app, st1, hkk, had, hi0, hwb', ld14, nc, bs, r1, r2, r3, hw, -loadAV]
              exact ih
            · have hwb : (w == wRd) = false := by simpa using hw1
              have hwb' : (w == [114, 101, 97, 100]) = false := hwb
              rw [hwb] at hr
              simp only [Bool.false_eq_true, if_false] at hr
              obtain ⟨x, hx1, hx2⟩ := ph_load [.cells t.row] hp
              have hlo : ∀ h l v n, lenAV h 1 (.own l v n) = some (.int .i64 n) := fun _ _ _ _ => rfl
              by_cases hw2 : w = wWr
              · have hwc : (w == wWr) = true := by simpa using hw2
                have hwc' : (w == [119, 114, 105, 116, 101]) = true := hwc
                rw [hwc] at hr
                simp only [Bool.true_and] at hr
                by_cases hrs : rs = []
                · subst hrs
                  have hr' : fin = ([], (n : Int), 4) := by simpa using hr
                  subst hr'
                  have h0 : ltB 0 (0 : Int) = false := by simp
                  simp [hsb, op_settle_call, settleL, settle1, c1, c2, c3, op_newnil_sp, ph_len, ph_app, st1, rows_nil1, pureQ, Rs.record_Parse, doneRows, hkk, had, hi0, hwb', hwc', nc, hx1, hx2, hlo, -loadAV, -lenAV]
                · have hre : rs.isEmpty = false := by cases rs with
                    | nil => exact absurd rfl hrs
                    | cons a b => rfl
                  rw [hre] at hr
                  simp only [Bool.not_false, if_true] at hr
                  obtain ⟨b3', r3, r4⟩ := ph_write (G := G) (st := false) [.cells t.row] t hp hrs
                  have hl0 : ltB 0 (rs.length : Int) = true := ltB_iff.2 (by have := List.length_pos_iff.2 hrs; omega)
                  have ih := parse_L0 G hC hS hst hfl fin (ks := ks) a16 ha m rest (n + 1) (dn ++ [mkDone hd rs t]) none b0 b3' k [.cells t.row]
                    (.str l) (.str rest) (.bool true) (.sl (ws.map rStr.enc)) .junk .junk (.ptr 4 0) (.eptr 3 k dn.length 0) (by omega) r4 (by omega) (by omega)
                    ⟨by have := hok.1; rw [List.length_append, List.length_singleton]; omega, fun d hd2 => by
                      rcases List.mem_append.1 hd2 with h | h
                      · exact hok.2.1 d h
                      · simp at h; subst h
                        simp only [okD, mkDone, Bool.and_eq_true]
                        exact ⟨⟨decide_eq_true (by have := hok3.1; unfold big; omega), List.all_eq_true.2 hok3.2⟩, hft⟩, fun hd2 rs2 e => by cases e⟩ (by rw [hr, hl2]) hk
                  simp [hsb, op_settle_call, settleL, settle1, c1, c2, c3, ph_len, ph_app, st1, hkk, had, hi0, hwb', hwc', nc, hx1, hx2, hlo, hl0, ld14, r3, hw, -loadAV, -lenAV]
                  exact ih
              · have hwc : (w == wWr) = false := by simpa using hw2
                have hwc' : (w == [119, 114, 105, 116, 101]) = false := hwc
                rw [hwc] at hr
                have hr' : fin = ([], (n : Int), 4) := by simpa using hr
                subst hr'
                simp [hsb, op_settle_call, settleL, settle1, c1, c2, c3, op_newnil_sp, ph_len, ph_app, st1, rows_nil1, pureQ, Rs.record_Parse, doneRows, hkk, had, hi0, hwb', hwc', nc, -loadAV]
      · have hcut := (index_one 10 s).2 hin
        rw [hcut] at c1
        simp only at c1
        have hsp := splitBy_none 10 s hin
        rw [hsp] at hr
        have hr' : fin = ([], (n : Int), 4) := by rw [hr]; simp [parseL, hs0]
        subst hr'
        simp [hsb, op_settle_call, settleL, settle1, c1, op_newnil_sp, ph_len, ph_app, rows_nil0, pureQ, Rs.record_Parse, doneRows]

theorem Parse_ok {G : Gam} (hC : G Fn.strings_Cut = some (.pure F_Cut)) (hS : G Fn.strings_Split = some (.pure F_Split)) (hst : G Fn.record_step = some (.pure F_stepP)) (hfl : G Fn.record_file = some (.pure F_file)) (hK : G Fn.record_Check = some (.pure F_Check)) :
    ∀ args r, F_Parse args = some r → wpM G Mc.record_Parse (pureQ Rs.record_Parse r) [] (frInit Ks.record_Parse args) [] := by
  intro args r hF
  unfold F_Parse at hF
  split at hF
  · rename_i s
    split at hF
    · rename_i hb
      injection hF with hF; subst hF
      rw [wpM_go]
      have lp := fun ks hk => parse_L0 G hC hS hst hfl (parseE s) (ks := ks) .junk rfl s.length s 0 [] none (.arr 2 0 [] true) (.arr 6 0 [] true) 0 [] .junk .junk .junk .junk .junk .junk .junk .junk (Nat.le_refl _) (.nil 0 [] true) (by omega) (Nat.le_refl _) ⟨by simp, by simp, fun _ _ e => by cases e⟩ rfl hk
      simp [Mc.record_Parse, Ks.record_Parse, frInit, upd, op_newnil_sp]
      refine lp _ (fun n' dn' o' b0' b3' k' ex' env hfin hp' hok' hn' => ?_)
      have hrn : ∀ (h : Heap) (a : Blk), rowsOf (h ++ [a, .arr 6 0 [] true]) (.own (h.length + 1) 0 0) = some [] := fun h a => by simp [rowsOf]
      cases o' with
      | some q =>
        have hfin' : parseE s = ([], (n' : Int), 13) := by simpa using hfin
        rw [hfin']
        have hr2 := hrn (PHeap b0' b3' ex') (.arr 2 0 [] true)
        simp [op_newnil_sp, hr2, pureQ, Rs.record_Parse, doneRows]
      | none =>
        obtain ⟨v0, rows0, wr0, hs1, hk1⟩ := ph_settle ex' hp'
        subst hk1
        have hr1 : rowsOf (PHeap (.arr 2 v0 rows0 wr0) (.arr 6 dn'.length (doneRows dn') true) ex') (.own 3 dn'.length dn'.length) = some (doneRows dn') := rows_own (l := 3) rfl (by simp)
        have hokR : okR dn' = true := by
          simp only [okR, Bool.and_eq_true, decide_eq_true_eq, List.all_eq_true]
          exact ⟨by have := hok'.1; unfold big; omega, hok'.2.1⟩
        have c1 : ∀ st, opV G st (PHeap (.arr 2 v0 rows0 wr0) (.arr 6 dn'.length (doneRows dn') true) ex') (.call Fn.record_Check) (some [.own 3 dn'.length dn'.length]) = some (.int .i64 (checkE dn'), PHeap (.arr 2 v0 rows0 wr0) (.arr 6 dn'.length (doneRows dn') true) ex') := fun st =>
          op_call hK (us := [.sl (doneRows dn')]) (by simp only [viewL, view, hr1, Option.map_some]) (F1_use (A := eSl rDone) (R := eInt) (f := fun r => if okR r then some (checkE r) else none) (x := dn') (r := checkE dn') (by simp only [hokR, if_true])) (.inl rfl)
        by_cases h0 : checkE dn' = 0
        · have hfin' : parseE s = (dn', -1, 0) := by simpa [h0] using hfin
          have e0 : eqB (checkE dn') 0 = true := eqB_iff.2 h0
          rw [hfin']
          simp [op_settle_call, settleL, hs1, c1, e0, hr1, pureQ, Rs.record_Parse]
        · have hfin' : parseE s = ([], -1, checkE dn') := by simpa [h0] using hfin
          have e0 : eqB (checkE dn') 0 = false := eqB_not.2 h0
          rw [hfin']
          have hr2 := hrn (PHeap (.arr 2 v0 rows0 wr0) (.arr 6 dn'.length (doneRows dn') true) ex') (.arr 2 0 [] true)
          have dr0 : doneRows [] = [] := rfl
          simp [op_settle_call, settleL, hs1, c1, e0, op_newnil_sp, hr2, pureQ, Rs.record_Parse, dr0]
    · cases hF
  · cases hF

end Go.Proofs.YtmjdgpiofhildaaGreatDoor
