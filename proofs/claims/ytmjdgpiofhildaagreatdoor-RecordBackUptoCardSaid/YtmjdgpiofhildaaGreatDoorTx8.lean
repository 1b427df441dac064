/- Valid records: what holds of them; the record of the text of a record; the text of the record of a text. The record of the text of a record; the text of the record of a text. The laws RecordTexts and RecordBack. -/
import Derived.Test.YtmjdgpiofhildaaGreatDoorTx7
import Derived.Test.YtmjdgpiofhildaaGreatDoorRmE
namespace Go.Proofs.YtmjdgpiofhildaaGreatDoor
open Go.RowKit Go.IntWalk

def okTV (t : Touch) : Prop := pathOK t.path = true ∧ t.dig.length = 32
/-- A step of a valid record. -/
structure okV (d : Done) : Prop where
  pkg : 0 ≤ d.pkg ∧ d.pkg < 16
  line : 0 ≤ d.line ∧ d.line < 1024
  kind : 1 ≤ d.kind ∧ d.kind ≤ 8
  ne : d.reads ≠ []
  cnt : d.reads.length ≤ 1024
  reads : ∀ t ∈ d.reads, okTV t
  wrote : okTV d.wrote

theorem touched_zero {t : Touch} (h : touchedE t = 0) : okTV t := by
  unfold touchedE at h
  split at h
  · rename_i h1
    split at h
    · rename_i h2; exact ⟨h1, h2⟩
    · cases h
  · cases h
theorem reads_zero (m : List (Bs × Bs)) : ∀ (ts : List Touch) (own : List (Bs × Bool)), (readsE m own ts).1 = 0 → ∀ t ∈ ts, okTV t
  | [], _, _, t, ht => by cases ht
  | t :: ts, own, h, u, hu => by
    unfold readsE at h
    split at h
    · rename_i h1
      split at h
      · cases h
      · split at h
        · cases h
        · rcases List.mem_cons.1 hu with rfl | hu
          · exact touched_zero h1
          · exact reads_zero m ts _ h u hu
    · rename_i h1; exact absurd h h1
theorem files_zero {m : List (Bs × Bs)} {s : Done} (h : filesE m s = 0) : (∀ t ∈ s.reads, okTV t) ∧ okTV s.wrote := by
  unfold filesE at h
  split at h
  · rename_i h1
    split at h
    · rename_i h2; exact ⟨reads_zero m s.reads [] h1, touched_zero h2⟩
    · rename_i h2; exact absurd h h2
  · rename_i h1; exact absurd h h1
theorem check_valid : ∀ (xs : List Done) (m : List (Bs × Bs)) (p : Option Done), checkFrom m p xs = 0 → ∀ d ∈ xs, okV d
  | [], _, _, _, d, hd => by cases hd
  | s :: rest, m, p, h, d, hd => by
    unfold checkFrom at h
    split at h
    · cases h
    · rename_i h1
      split at h
      · cases h
      · split at h
        · cases h
        · rename_i h3
          split at h
          · rename_i h4
            rcases List.mem_cons.1 hd with rfl | hd
            · obtain ⟨f1, f2⟩ := files_zero h4
              simp only [rangeBad, Bool.or_eq_true, not_or, ltB, Bool.not_eq_true', decide_eq_true_eq, decide_eq_false_iff_not] at h1
              simp only [countBad, Bool.or_eq_true, not_or, ltB, eqB, decide_eq_true_eq] at h3
              exact ⟨by omega, by omega, by omega, fun e => h3.1 (by simp [e]), by omega, f1, f2⟩
            · exact check_valid rest _ _ h d hd
          · rename_i h4; exact absurd h h4
theorem checkE_valid {xs : List Done} (h : checkE xs = 0) : xs.length ≤ 1024 ∧ ∀ d ∈ xs, okV d := by
  unfold checkE at h
  split at h
  · cases h
  · exact ⟨by omega, check_valid xs [] none h⟩

/-! ### Paths have neither spaces nor line ends -/
theorem split_join (c : UInt8) (b : UInt8) (hb : b ≠ c) : ∀ s : Bs, b ∈ s → ∃ w ∈ splitBy c s, b ∈ w
  | [], h => by cases h
  | x :: r, h => by
    unfold splitBy
    split
    · rename_i hx
      rcases List.mem_cons.1 h with rfl | h
      · exact absurd hx hb
      · obtain ⟨w, h1, h2⟩ := split_join c b hb r h
        exact ⟨w, by simp [h1], h2⟩
    · cases hs : splitBy c r with
      | nil => exact absurd hs (splitBy_ne c r)
      | cons w ws =>
        rcases List.mem_cons.1 h with rfl | h
        · exact ⟨b :: w, by simp, by simp⟩
        · obtain ⟨u, h1, h2⟩ := split_join c b hb r h
          rw [hs] at h1
          rcases List.mem_cons.1 h1 with rfl | h1
          · exact ⟨x :: u, by simp, by simp [h2]⟩
          · exact ⟨u, by simp [h1], h2⟩
theorem path_no {s : Bs} (h : pathOK s = true) (b : UInt8) (hb : b ≠ 47) (hp : pch b.toNat = false) : b ∉ s := fun hm => by
  obtain ⟨w, h1, h2⟩ := split_join 47 b hb s hm
  simp only [pathOK, Bool.and_eq_true, List.all_eq_true] at h
  have hw := h.2 w h1
  cases w with
  | nil => cases h2
  | cons c r =>
    simp only [partOK, Bool.and_eq_true, List.all_eq_true] at hw
    have := hw.2 b h2
    rw [hp] at this; cases this
theorem path_32 {s : Bs} (h : pathOK s = true) : (32 : UInt8) ∉ s ∧ (10 : UInt8) ∉ s ∧ s ≠ [] := by
  refine ⟨path_no h 32 (by decide) (by decide), path_no h 10 (by decide) (by decide), fun e => ?_⟩
  subst e
  revert h
  decide

end Go.Proofs.YtmjdgpiofhildaaGreatDoor

namespace Go.Proofs.YtmjdgpiofhildaaGreatDoor
open Go.RowKit Go.IntWalk

/-! ### Hexadecimal digits, there and back -/
theorem hexDigit_val : ∀ n : Fin 16, hexVal (hexDigit n.val) = n.val ∧ hexDigit n.val ≠ 32 ∧ hexDigit n.val ≠ 10 := by decide
set_option maxRecDepth 100000 in
theorem hexVal_digit : ∀ n : Fin 256, 0 ≤ hexVal (UInt8.ofNat n.val) → hexVal (UInt8.ofNat n.val) < 16 ∧ hexDigit (hexVal (UInt8.ofNat n.val)).toNat = UInt8.ofNat n.val := by decide
theorem hexVal_back (c : UInt8) (h : 0 ≤ hexVal c) : hexVal c < 16 ∧ hexDigit (hexVal c).toNat = c := by
  have hc := c.toNat_lt
  have := hexVal_digit ⟨c.toNat, by omega⟩
  simp only [UInt8.ofNat_toNat] at this
  exact this h
theorem unhex_hex : ∀ d : Bs, unhex (hexE d) = some d
  | [] => rfl
  | b :: r => by
    have hb := b.toNat_lt
    have h1 := (hexDigit_val ⟨b.toNat / 16, by omega⟩).1
    have h2 := (hexDigit_val ⟨b.toNat % 16, by omega⟩).1
    simp only at h1 h2
    simp only [hexE, unhex, h1, h2, unhex_hex r]
    rw [if_neg (by omega)]
    simp only [Option.map_some, Int.toNat_natCast]
    rw [show 16 * (b.toNat / 16) + b.toNat % 16 = b.toNat by omega]
    simp
theorem hex_unhex : ∀ (k : Nat) (h d : Bs), h.length ≤ k → unhex h = some d → hexE d = h
  | _, [], d, _, hd => by simp [unhex] at hd; subst hd; rfl
  | _, [_], d, _, hd => by simp [unhex] at hd
  | 0, _ :: _ :: _, d, hk, _ => by simp at hk
  | k + 1, a :: b :: r, d, hk, hd => by
    simp only [unhex] at hd
    split at hd
    · cases hd
    · rename_i hn
      obtain ⟨d2, h2, rfl⟩ := Option.map_eq_some_iff.1 hd
      have ih := hex_unhex k r d2 (by simp at hk; omega) h2
      obtain ⟨a1, a2⟩ := hexVal_back a (by omega)
      obtain ⟨b1, b2⟩ := hexVal_back b (by omega)
      simp only [hexE, ih]
      have e : (UInt8.ofNat (16 * (hexVal a).toNat + (hexVal b).toNat)).toNat = 16 * (hexVal a).toNat + (hexVal b).toNat := by rw [UInt8.toNat_ofNat']; omega
      rw [e, show (16 * (hexVal a).toNat + (hexVal b).toNat) / 16 = (hexVal a).toNat by omega, show (16 * (hexVal a).toNat + (hexVal b).toNat) % 16 = (hexVal b).toNat by omega, a2, b2]
theorem hex_no : ∀ d : Bs, (32 : UInt8) ∉ hexE d ∧ (10 : UInt8) ∉ hexE d
  | [] => by simp [hexE]
  | b :: r => by
    have hb := b.toNat_lt
    obtain ⟨i1, i2⟩ := hex_no r
    obtain ⟨_, h1, h2⟩ := hexDigit_val ⟨b.toNat / 16, by omega⟩
    obtain ⟨_, h3, h4⟩ := hexDigit_val ⟨b.toNat % 16, by omega⟩
    simp only at h1 h2 h3 h4
    simp only [hexE, List.mem_cons, not_or]
    exact ⟨⟨h1.symm, h3.symm, i1⟩, ⟨h2.symm, h4.symm, i2⟩⟩

/-! ### Numbers, there and back -/
theorem parse_snoc : ∀ (s : Bs) (a v : Nat) (c : UInt8), Lib.parseUint10 a s = .ok v → 48 ≤ c.toNat → c.toNat ≤ 57 → v < 1000000 → Lib.parseUint10 a (s ++ [c]) = .ok (v * 10 + (c.toNat - 48))
  | [], a, v, c, h, h1, h2, hv => by
    simp only [Lib.parseUint10] at h; injection h with h; subst h
    simp only [List.nil_append, Lib.parseUint10]
    rw [if_pos ⟨h1, h2⟩, if_neg (by omega), if_neg (by omega)]
  | x :: r, a, v, c, h, h1, h2, hv => by
    simp only [Lib.parseUint10] at h
    split at h
    · rename_i hx
      split at h
      · cases h
      · rename_i q1
        split at h
        · cases h
        · rename_i q2
          have ih := parse_snoc r _ v c h h1 h2 hv
          simp only [List.cons_append, Lib.parseUint10]
          rw [if_pos hx, if_neg q1, if_neg q2, ih]
    · cases h
theorem parse_digits : ∀ (k n : Nat), n < k → n < 10000 → Lib.parseUint10 0 (Lib.decDigits n) = .ok n
  | 0, n, h, _ => by omega
  | k + 1, n, h, hn => by
    by_cases h1 : n < 10
    · have e : (UInt8.ofNat (48 + n)).toNat = 48 + n := by rw [UInt8.toNat_ofNat']; omega
      rw [dec_small h1]
      simp only [Lib.parseUint10, e]
      rw [if_pos (by omega), if_neg (by omega), if_neg (by omega)]
      congr 1; omega
    · have ih := parse_digits k (n / 10) (by omega) (by omega)
      have e : (UInt8.ofNat (48 + n % 10)).toNat = 48 + n % 10 := by rw [UInt8.toNat_ofNat']; omega
      rw [dec_big h1, dec_small (n := n % 10) (by omega)]
      rw [parse_snoc _ 0 (n / 10) _ ih (by rw [e]; omega) (by rw [e]; omega) (by omega), e]
      congr 1; omega
theorem dec_len' : ∀ (k n : Nat), n < 10 ^ (k + 1) → (Lib.decDigits n).length ≤ k + 1
  | 0, n, h => by rw [dec_small (by simpa using h)]; simp
  | k + 1, n, h => by
    by_cases h1 : n < 10
    · rw [dec_small h1]; simp
    · rw [dec_big h1, dec_small (n := n % 10) (by omega)]
      have := dec_len' k (n / 10) (by rw [Nat.pow_succ] at h; omega)
      simp; omega
theorem numE_itoa {n : Int} (h : 0 ≤ n) (h2 : n < 10000) : numE (Lib.itoa n) = n := by
  obtain ⟨m, rfl⟩ : ∃ m : Nat, n = m := ⟨n.toNat, by omega⟩
  have hi : Lib.itoa (m : Int) = Lib.decDigits m := by rw [itoa_dec h]; simp
  rw [hi]
  have hp := parse_digits (m + 1) m (by omega) (by omega)
  have hr : numR (Lib.decDigits m) = ((m : Int), true) := by
    unfold numR
    have hok : numOk (Lib.decDigits m) = true := by
      have hl : (Lib.decDigits m).length ≤ 4 := dec_len' 3 m (by omega)
      by_cases h0 : m = 0
      · subst h0; rw [dec_small (by omega)]; decide
      · obtain ⟨c, r, e, c1, c2, _⟩ := dec_head (m + 1) m (by omega) (by omega)
        have hcc : ¬ c = 48 := fun e => by subst e; simp at c1
        rw [e] at hl ⊢
        simp only [numOk]
        simp [hcc]
        simpa using hl
    rw [hok, hp]; rfl
  have := (num_eq (Lib.decDigits m)).2 (by rw [hr])
  rw [← this, hr]
theorem itoa_numE {s : Bs} (h : 0 ≤ numE s) : Lib.itoa (numE s) = s := by
  unfold numE at h ⊢
  split at h
  · split at h
    · omega
    · split at h
      · rename_i h3 h4; rw [if_neg h3, if_pos h4]; exact h4
      · omega
  · omega

/-! ### Lists of parts -/
def joinC (c : UInt8) : List Bs → Bs
  | [] => []
  | [x] => x
  | x :: y :: r => x ++ c :: joinC c (y :: r)
theorem join_split (c : UInt8) : ∀ s : Bs, joinC c (splitBy c s) = s
  | [] => rfl
  | b :: r => by
    have ih := join_split c r
    unfold splitBy
    split
    · rename_i hb
      subst hb
      cases hs : splitBy b r with
      | nil => exact absurd hs (splitBy_ne b r)
      | cons x xs => rw [hs] at ih; simp [joinC, ih]
    · cases hs : splitBy c r with
      | nil => exact absurd hs (splitBy_ne c r)
      | cons x xs =>
        rw [hs] at ih
        cases xs with
        | nil => simp [joinC] at ih ⊢; exact ih
        | cons y ys => simp [joinC] at ih ⊢; exact ih

theorem parseL_cons (st : List Bs → Hd × Bool) (fl : List Bs → Touch × Bool) (chk : List Done → Int) (l : Bs) {ls : List Bs} (h : ls ≠ []) (n : Nat) (dn : List Done) (o : Option (Hd × List Touch)) :
    parseL st fl chk (l :: ls) n dn o = (match o with
    | none => if (st (splitBy 32 l)).2 then parseL st fl chk ls (n + 1) dn (some ((st (splitBy 32 l)).1, [])) else ([], n, 4)
    | some (hd, rs) =>
      if (fl (splitBy 32 l)).2 && (wd0 (splitBy 32 l) == wRd) then parseL st fl chk ls (n + 1) dn (some (hd, rs ++ [(fl (splitBy 32 l)).1]))
      else if (fl (splitBy 32 l)).2 && (wd0 (splitBy 32 l) == wWr) && !rs.isEmpty then parseL st fl chk ls (n + 1) (dn ++ [mkDone hd rs (fl (splitBy 32 l)).1]) none
      else ([], n, 4)) := by
  cases ls with
  | nil => exact absurd rfl h
  | cons a b => cases o <;> rfl

/-! ### There: the record of a text of a record -/
theorem nums_no {n : Int} (h : 0 ≤ n) : (32 : UInt8) ∉ Lib.itoa n ∧ (10 : UInt8) ∉ Lib.itoa n := by
  rw [itoa_dec h]
  generalize n.toNat = m
  have key : ∀ k m : Nat, m < k → ∀ c ∈ Lib.decDigits m, 48 ≤ c.toNat := by
    intro k
    induction k with
    | zero => intro m hm; omega
    | succ k ih =>
      intro m hm c hc
      have sm : ∀ j, j < 10 → ∀ c ∈ Lib.decDigits j, 48 ≤ c.toNat := fun j hj c hc => by
        rw [dec_small hj] at hc; have hc := List.mem_singleton.1 hc; subst hc; rw [UInt8.toNat_ofNat']; omega
      by_cases h1 : m < 10
      · exact sm m h1 c hc
      · rw [dec_big h1] at hc
        rcases List.mem_append.1 hc with hc | hc
        · exact ih (m / 10) (by omega) c hc
        · exact sm (m % 10) (by omega) c hc
  have := key (m + 1) m (by omega)
  exact ⟨fun h => by have := this _ h; simp at this, fun h => by have := this _ h; simp at this⟩

def hdOf (d : Done) : Hd := ⟨d.pkg, d.line, d.kind⟩
def stepTxt (hd : Hd) : Bs := [115, 116, 101, 112] ++ 32 :: (Lib.itoa hd.a ++ 32 :: (Lib.itoa hd.b ++ 32 :: Lib.itoa hd.c))
def fileTxt (w : Bs) (t : Touch) : Bs := w ++ 32 :: (t.path ++ 32 :: hexE t.dig)
theorem stepLine_eq (d : Done) : stepLine d = stepTxt (hdOf d) ++ [10] := by simp [stepLine, stepTxt, hdOf, wStep]
theorem lineE_eq {w : Bs} {t : Touch} (h : t.dig.length = 32) : lineE w t = fileTxt w t ++ [10] := by simp [lineE, fileTxt, hexS, h]

theorem step_words {hd : Hd} (ha : 0 ≤ hd.a) (hb : 0 ≤ hd.b) (hc : 0 ≤ hd.c) : splitBy 32 (stepTxt hd) = [[115, 116, 101, 112], Lib.itoa hd.a, Lib.itoa hd.b, Lib.itoa hd.c] ∧ (10 : UInt8) ∉ stepTxt hd := by
  obtain ⟨a1, a2⟩ := nums_no ha
  obtain ⟨b1, b2⟩ := nums_no hb
  obtain ⟨c1, c2⟩ := nums_no hc
  unfold stepTxt
  refine ⟨?_, ?_⟩
  · rw [splitBy_mid 32 _ _ (by decide), splitBy_mid 32 _ _ a1, splitBy_mid 32 _ _ b1, splitBy_none 32 _ c1]
  · simp [a2, b2, c2]
theorem file_words {w : Bs} {t : Touch} (hw : (32 : UInt8) ∉ w ∧ (10 : UInt8) ∉ w) (ht : okTV t) : splitBy 32 (fileTxt w t) = [w, t.path, hexE t.dig] ∧ (10 : UInt8) ∉ fileTxt w t := by
  obtain ⟨p1, p2, _⟩ := path_32 ht.1
  obtain ⟨h1, h2⟩ := hex_no t.dig
  unfold fileTxt
  refine ⟨?_, ?_⟩
  · rw [splitBy_mid 32 _ _ hw.1, splitBy_mid 32 _ _ p1, splitBy_none 32 _ h1]
  · simp [hw.2, p2, h2]
theorem fileE_words {w : Bs} {t : Touch} (ht : okTV t) : fileE [w, t.path, hexE t.dig] = (t, true) := by
  have hp := (path_32 ht.1).2.2
  have hl : (hexE t.dig).length = 64 := by rw [hexE_len, ht.2]
  simp [fileE, hp, dparseE, hl, unhex_hex]

theorem back_reads (chk : List Done → Int) (hd : Hd) (w : Touch) (hw : okTV w) (T : Bs) (dn : List Done) : ∀ (ts rs : List Touch) (n : Nat), (∀ t ∈ ts, okTV t) → rs ++ ts ≠ [] →
    ∃ n', parseL hdE fileE chk (splitBy 10 (rdLines ts ++ (lineE wWrite w ++ T))) n dn (some (hd, rs)) = parseL hdE fileE chk (splitBy 10 T) n' (dn ++ [mkDone hd (rs ++ ts) w]) none
  | [], rs, n, _, hne => by
    obtain ⟨w1, w2⟩ := file_words (w := wWrite) (by decide) hw
    refine ⟨n + 1, ?_⟩
    simp only [rdLines, List.flatMap_nil, List.nil_append, lineE_eq hw.2, List.append_assoc, List.singleton_append]
    rw [splitBy_mid 10 _ _ w2, parseL_cons _ _ _ _ (splitBy_ne 10 T), w1]
    have hrs : rs.isEmpty = false := by
      cases rs with
      | nil => exact absurd rfl hne
      | cons a b => rfl
    have e1 : wd0 [wWrite, w.path, hexE w.dig] = wWr := rfl
    have e2 : (wWr == wRd) = false := by decide
    simp only [fileE_words hw, e1, e2, hrs, Bool.and_false, Bool.false_eq_true, if_false, beq_self_eq_true, Bool.and_self, Bool.not_false, if_true, List.append_nil]
  | t :: ts, rs, n, hts, hne => by
    have ht := hts t (by simp)
    obtain ⟨w1, w2⟩ := file_words (w := wRead) (by decide) ht
    obtain ⟨n', ih⟩ := back_reads chk hd w hw T dn ts (rs ++ [t]) (n + 1) (fun u hu => hts u (by simp [hu])) (by simp)
    refine ⟨n', ?_⟩
    have e0 : rdLines (t :: ts) = lineE wRead t ++ rdLines ts := rfl
    rw [e0, lineE_eq ht.2, List.append_assoc, List.append_assoc, List.singleton_append]
    rw [splitBy_mid 10 _ _ w2, parseL_cons _ _ _ _ (splitBy_ne 10 _), w1]
    have e1 : wd0 [wRead, t.path, hexE t.dig] = wRd := rfl
    simp only [fileE_words ht, e1, beq_self_eq_true, Bool.and_self, if_true, ih, List.append_assoc, List.singleton_append]

theorem back_done (chk : List Done → Int) : ∀ (r : List Done) (n : Nat) (dn : List Done), (∀ d ∈ r, okV d) → ∃ n', parseL hdE fileE chk (splitBy 10 (printE r)) n dn none = parseL hdE fileE chk [[]] n' (dn ++ r) none
  | [], n, dn, _ => ⟨n, by simp [printE, splitBy]⟩
  | d :: r, n, dn, h => by
    have hd := h d (by simp)
    obtain ⟨s1, s2⟩ := step_words (hd := hdOf d) hd.pkg.1 hd.line.1 (show 0 ≤ d.kind by have := hd.kind; omega)
    obtain ⟨n1, h1⟩ := back_reads chk (hdOf d) d.wrote hd.wrote (printE r) dn d.reads [] (n + 1) hd.reads (by simpa using hd.ne)
    obtain ⟨n2, h2⟩ := back_done chk r n1 (dn ++ [d]) (fun x hx => h x (by simp [hx]))
    refine ⟨n2, ?_⟩
    have e0 : printE (d :: r) = stepTxt (hdOf d) ++ 10 :: (rdLines d.reads ++ (lineE wWrite d.wrote ++ printE r)) := by
      show doneE d ++ printE r = _
      simp only [doneE, stepLine_eq, List.append_assoc, List.singleton_append, List.cons_append, List.nil_append]
    have e1 : hdE [[115, 116, 101, 112], Lib.itoa (hdOf d).a, Lib.itoa (hdOf d).b, Lib.itoa (hdOf d).c] = (hdOf d, true) := by
      have a1 := numE_itoa hd.pkg.1 (by have := hd.pkg; omega)
      have a2 := numE_itoa hd.line.1 (by have := hd.line; omega)
      have a3 := numE_itoa (n := d.kind) (by have := hd.kind; omega) (by have := hd.kind; omega)
      have := hd.pkg.1
      have := hd.line.1
      have := hd.kind.1
      simp only [hdE, hdOf, a1, a2, a3, if_true]
      simp; omega
    have e2 : mkDone (hdOf d) ([] ++ d.reads) d.wrote = d := rfl
    rw [e0, splitBy_mid 10 _ _ s2, parseL_cons _ _ _ _ (splitBy_ne 10 _), s1]
    simp only [e1, if_true]
    rw [h1, e2, h2]
    simp
theorem parse_print {r : List Done} (h : checkE r = 0) : parseE (printE r) = (r, -1, 0) := by
  obtain ⟨n', e⟩ := back_done checkE r 0 [] (checkE_valid h).2
  unfold parseE
  rw [e]
  simp [parseL, h]

/-! ### Back: the text of the record of a text -/
def openT : Option (Hd × List Touch) → Bs
  | none => []
  | some (hd, rs) => stepTxt hd ++ 10 :: rdLines rs

theorem hdE_inv {l : Bs} {hd : Hd} (h : hdE (splitBy 32 l) = (hd, true)) : stepTxt hd = l := by
  have hj := join_split 32 l
  generalize splitBy 32 l = ws at h hj
  unfold hdE at h
  split at h
  · rename_i w x y z
    split at h
    · rename_i hw
      injection h with h1 h2
      subst h1 hw
      simp only [Bool.and_eq_true, decide_eq_true_eq] at h2
      rw [← hj]
      simp only [stepTxt, itoa_numE h2.1.1, itoa_numE h2.1.2, itoa_numE h2.2, joinC]
    · cases h
  · cases h
theorem fileE_inv {l : Bs} {t : Touch} (h : fileE (splitBy 32 l) = (t, true)) : fileTxt (wd0 (splitBy 32 l)) t = l ∧ t.dig.length = 32 := by
  have hj := join_split 32 l
  generalize splitBy 32 l = ws at h hj
  unfold fileE at h
  split at h
  · rename_i w p hh
    split at h
    · cases h
    · injection h with h1 h2
      subst h1
      simp only [decide_eq_true_eq] at h2
      unfold dparseE at h2 ⊢
      split at h2
      · rename_i h64
        cases hu : unhex hh with
        | none => simp [hu] at h2
        | some d =>
          have := hex_unhex 64 hh d (by omega) hu
          refine ⟨?_, ?_⟩
          · simp only [if_pos h64]
            rw [← hj]
            simp only [fileTxt, this, wd0, List.headD_cons, joinC]
          · simp only [if_pos h64]
            exact unhex_len 32 hh d (by omega) hu
      · cases h2
  · cases h

theorem parse_text : ∀ (ls : List Bs) (n : Nat) (dn : List Done) (o : Option (Hd × List Touch)) (a : List Done) (m : Int), parseL hdE fileE checkE ls n dn o = (a, m, 0) → (∀ hd rs, o = some (hd, rs) → ∀ t ∈ rs, t.dig.length = 32) → printE a = printE dn ++ openT o ++ joinC 10 ls ∧ m = -1 ∧ checkE a = 0
  | [], n, dn, o, a, m, h, _ => by simp [parseL] at h
  | [z], n, dn, o, a, m, h, _ => by
    simp only [parseL] at h
    split at h
    · rename_i hz
      split at h
      · simp at h
      · rename_i ho
        split at h
        · rename_i hc
          injection h with h1 h2
          injection h2 with h2 h3
          subst h1 h2 hz
          cases o with
          | some q => simp at ho
          | none => exact ⟨by simp [openT, joinC], rfl, hc⟩
        · rename_i hc
          injection h with h1 h2
          injection h2 with h2 h3
          exact absurd h3 hc
    · simp at h
  | l :: l2 :: tl, n, dn, o, a, m, h, hdg => by
    cases o with
    | none =>
      simp only [parseL] at h
      split at h
      · rename_i hk
        obtain ⟨hd, hhd⟩ : ∃ hd, hdE (splitBy 32 l) = (hd, true) := ⟨(hdE (splitBy 32 l)).1, by rw [← hk]⟩
        rw [hhd] at h
        obtain ⟨e1, e2, e3⟩ := parse_text (l2 :: tl) (n + 1) dn (some (hd, [])) a m h (fun hd' rs' e => by injection e with e; injection e with _ e; subst e; simp)
        refine ⟨?_, e2, e3⟩
        rw [e1]
        simp [openT, joinC, hdE_inv hhd, rdLines]
      · simp at h
    | some q =>
      obtain ⟨hd, rs⟩ := q
      have hdg' := hdg hd rs rfl
      simp only [parseL] at h
      by_cases hk : (fileE (splitBy 32 l)).2 = true
      · obtain ⟨t, ht⟩ : ∃ t, fileE (splitBy 32 l) = (t, true) := ⟨(fileE (splitBy 32 l)).1, by rw [← hk]⟩
        obtain ⟨f1, f2⟩ := fileE_inv ht
        rw [ht] at h
        simp only [Bool.true_and] at h
        split at h
        · rename_i hw
          have hw' : wd0 (splitBy 32 l) = wRd := by simpa using hw
          obtain ⟨e1, e2, e3⟩ := parse_text (l2 :: tl) (n + 1) dn (some (hd, rs ++ [t])) a m h (fun hd' rs' e => by
            injection e with e; injection e with _ e; subst e
            intro u hu
            rcases List.mem_append.1 hu with hu | hu
            · exact hdg' u hu
            · simp at hu; subst hu; exact f2)
          refine ⟨?_, e2, e3⟩
          have e0 : lineE wRead t = l ++ [10] := by rw [lineE_eq f2, show wRead = wd0 (splitBy 32 l) from hw'.symm, f1]
          have e4 : rdLines (rs ++ [t]) = rdLines rs ++ (l ++ [10]) := by simp [rdLines, e0]
          rw [e1]
          simp [openT, joinC, e4]
        · split at h
          · rename_i hw
            simp only [Bool.and_eq_true, beq_iff_eq] at hw
            obtain ⟨e1, e2, e3⟩ := parse_text (l2 :: tl) (n + 1) (dn ++ [mkDone hd rs t]) none a m h (fun _ _ e => by cases e)
            refine ⟨?_, e2, e3⟩
            have e0 : lineE wWrite t = l ++ [10] := by rw [lineE_eq f2, show wWrite = wd0 (splitBy 32 l) from hw.1.symm, f1]
            have e4 : printE (dn ++ [mkDone hd rs t]) = printE dn ++ (stepTxt hd ++ 10 :: rdLines rs ++ (l ++ [10])) := by
              have : doneE (mkDone hd rs t) = stepTxt hd ++ 10 :: rdLines rs ++ (l ++ [10]) := by
                simp only [doneE, stepLine_eq]
                show stepTxt hd ++ [10] ++ rdLines rs ++ lineE wWrite t = _
                rw [e0]; simp
              simp [printE, this]
            rw [e1, e4]
            simp [openT, joinC]
          · simp at h
      · have hk' : (fileE (splitBy 32 l)).2 = false := by simpa using hk
        simp [hk'] at h
theorem print_parse {s : Bs} {a : List Done} {m : Int} (h : parseE s = (a, m, 0)) : printE a = s ∧ m = -1 ∧ checkE a = 0 := by
  obtain ⟨e1, e2, e3⟩ := parse_text _ _ _ _ _ _ h (fun _ _ e => by cases e)
  refine ⟨?_, e2, e3⟩
  rw [e1, join_split]
  simp [printE, openT]
theorem parse_fault : ∀ (ls : List Bs) (n : Nat) (dn : List Done) (o : Option (Hd × List Touch)), (parseL hdE fileE checkE ls n dn o).2.2 ≠ 0 → (parseL hdE fileE checkE ls n dn o).1 = [] ∧ -1 ≤ (parseL hdE fileE checkE ls n dn o).2.1
  | [], n, dn, o, _ => ⟨rfl, by simp only [parseL]; omega⟩
  | [z], n, dn, o, h => by
    simp only [parseL] at h ⊢
    split
    · rename_i hz
      rw [if_pos hz] at h
      split
      · exact ⟨rfl, by show (-1 : Int) ≤ (n : Int); omega⟩
      · rename_i ho
        rw [if_neg ho] at h
        split
        · rename_i hc
          rw [if_pos hc] at h; exact absurd rfl h
        · exact ⟨rfl, by simp⟩
    · exact ⟨rfl, by show (-1 : Int) ≤ (n : Int); omega⟩
  | l :: l2 :: tl, n, dn, o, h => by
    cases o with
    | none =>
      simp only [parseL] at h ⊢
      split
      · rename_i hk; rw [if_pos hk] at h; exact parse_fault _ _ _ _ h
      · exact ⟨rfl, by show (-1 : Int) ≤ (n : Int); omega⟩
    | some q =>
      obtain ⟨hd, rs⟩ := q
      simp only [parseL] at h ⊢
      split
      · rename_i hk; rw [if_pos hk] at h; exact parse_fault _ _ _ _ h
      · rename_i hk
        rw [if_neg hk] at h
        split
        · rename_i hk2; rw [if_pos hk2] at h; exact parse_fault _ _ _ _ h
        · exact ⟨rfl, by show (-1 : Int) ≤ (n : Int); omega⟩

end Go.Proofs.YtmjdgpiofhildaaGreatDoor

namespace Go.Proofs.YtmjdgpiofhildaaGreatDoor
open Go.RowKit Go.IntWalk

theorem div_self : ∀ (a : List Done) (i : Nat), divFrom i a a = -1
  | [], i => rfl
  | d :: r, i => by simp only [divFrom, if_true]; exact div_self r (i + 1)

def F_same : List AV → Option AV := F2 (eSl rDone) (eSl rDone) eBool fun a b => if a.length ≤ big ∧ b.length ≤ big ∧ okReads a = true then some (eqB (divFrom 0 a b) (-1)) else none
theorem same_ok (G : Gam) (hD : G Fn.licitref17_Diverge = some (.pure F_Diverge)) : ∀ args r, F_same args = some r → wpM G Mc.licitlaw17_same (pureQ Rs.licitlaw17_same r) [] (frInit Ks.licitlaw17_same args) [] := F2_ok fun a b r h => by
  split at h
  · rename_i hc
    injection h with h; subst h
    rw [wpM_go, eSl_done, eSl_done]
    have cD : ∀ st h, opV G st h (.call Fn.licitref17_Diverge) (some [.sl (doneRows a), .sl (doneRows b)]) = some (.int .i64 (divFrom 0 a b), h) := fun st h => op_call hD rfl (by simp only [F_Diverge, dec_doneRows]; rw [if_pos hc]) (.inl rfl)
    simp [Mc.licitlaw17_same, frInit, Ks.licitlaw17_same, cD, Rs.licitlaw17_same]
  · cases h

theorem line_len {w : Bs} {t : Touch} (hw : w.length ≤ 5) (ht : okTV t) : (lineE w t).length ≤ 200 := by
  have h1 := ht.1
  simp only [pathOK, Bool.and_eq_true, Bool.not_eq_true', ltB, decide_eq_false_iff_not] at h1
  have h2 := hexE_len t.dig
  rw [lineE_eq ht.2]
  simp only [fileTxt, List.length_append, List.length_cons, List.length_nil, h2, ht.2]
  omega
theorem lines_len : ∀ ts : List Touch, (∀ t ∈ ts, okTV t) → (rdLines ts).length ≤ 200 * ts.length
  | [], _ => by simp [rdLines]
  | t :: ts, h => by
    have ih := lines_len ts (fun u hu => h u (by simp [hu]))
    have := line_len (w := wRead) (by decide) (h t (by simp))
    have e : rdLines (t :: ts) = lineE wRead t ++ rdLines ts := rfl
    rw [e, List.length_append, List.length_cons]; omega
theorem itoa_len {n : Int} (h : 0 ≤ n) (h2 : n < 10000) : (Lib.itoa n).length ≤ 4 := by
  rw [itoa_dec h]; exact dec_len' 3 _ (by omega)
theorem print_len : ∀ xs : List Done, (∀ d ∈ xs, okV d) → (printE xs).length ≤ 300000 * xs.length
  | [], _ => by simp [printE]
  | d :: xs, h => by
    have ih := print_len xs (fun u hu => h u (by simp [hu]))
    have hd := h d (by simp)
    have h1 := lines_len d.reads hd.reads
    have h2 := line_len (w := wWrite) (by decide) hd.wrote
    have := hd.cnt
    have a1 := itoa_len hd.pkg.1 (by have := hd.pkg; omega)
    have a2 := itoa_len hd.line.1 (by have := hd.line; omega)
    have a3 := itoa_len (n := d.kind) (by have := hd.kind; omega) (by have := hd.kind; omega)
    have e : printE (d :: xs) = doneE d ++ printE xs := rfl
    rw [e, List.length_append, List.length_cons]
    simp only [doneE, stepLine, wStep, List.length_append, List.length_cons, List.length_nil]
    omega
theorem valid_len {xs : List Done} (h : checkE xs = 0) : (printE xs).length ≤ 307200000 := by
  obtain ⟨h1, h2⟩ := checkE_valid h
  have := print_len xs h2
  omega
theorem valid_okPr {xs : List Done} (h : checkE xs = 0) : okPr xs = true := by
  obtain ⟨h1, h2⟩ := checkE_valid h
  simp only [okPr, okDp, i64ok, Bool.and_eq_true, decide_eq_true_eq, List.all_eq_true]
  refine ⟨fun d hd => ?_, ?_⟩
  · have hv := h2 d hd
    have := hv.pkg
    have := hv.line
    have := hv.kind
    refine ⟨⟨⟨⟨⟨by omega, by omega⟩, ⟨by omega, by omega⟩⟩, ⟨by omega, by omega⟩⟩, fun t ht => ?_⟩, ?_⟩
    · rw [(hv.reads t ht).2]; unfold big; omega
    · rw [hv.wrote.2]; unfold big; omega
  · have := valid_len h
    unfold strMax; omega
theorem valid_okD2 {xs : List Done} (h : checkE xs = 0) : ∀ d ∈ xs, okD2 d = true ∧ (∀ t ∈ d.reads, t.dig.length = 32) ∧ d.wrote.dig.length = 32 := fun d hd => by
  have hv := (checkE_valid h).2 d hd
  have := hv.pkg
  have := hv.line
  have := hv.kind
  refine ⟨?_, fun t ht => (hv.reads t ht).2, hv.wrote.2⟩
  simp only [okD2, n4, Bool.and_eq_true, decide_eq_true_eq, List.all_eq_true]
  refine ⟨⟨⟨⟨⟨by omega, by omega⟩, ⟨by omega, by omega⟩⟩, ⟨by omega, by omega⟩⟩, fun t ht => ?_⟩, ?_⟩
  · rw [(hv.reads t ht).2]; unfold big; omega
  · rw [hv.wrote.2]; unfold big; omega
theorem valid_okP2 {xs : List Done} (h : checkE xs = 0) : okP2 xs = true := by
  have h1 := valid_okD2 h
  have h2 := texts_eq h1
  have := valid_len h
  simp only [okP2, Bool.and_eq_true, decide_eq_true_eq, List.all_eq_true]
  refine ⟨fun d hd => (h1 d hd).1, ?_⟩
  rw [← h2]; unfold strMax; omega
theorem prints_eq (xs : List Done) : printRR xs = printR xs := by
  unfold printRR printR
  rw [← check_eq]
  by_cases h : checkE xs = 0
  · rw [if_pos h, if_pos h, texts_eq (valid_okD2 h)]
  · rw [if_neg h, if_neg h]
theorem valid_ok {xs : List Done} (h : checkE xs = 0) : okR xs = true ∧ okReads xs = true := by
  obtain ⟨h1, h2⟩ := checkE_valid h
  have pl : ∀ t, okTV t → okT t = true := fun t ht => by
    have := ht.1
    simp only [pathOK, Bool.and_eq_true, Bool.not_eq_true', ltB, decide_eq_false_iff_not] at this
    simp only [okT, decide_eq_true_eq]; omega
  refine ⟨?_, ?_⟩
  · simp only [okR, okD, Bool.and_eq_true, decide_eq_true_eq, List.all_eq_true]
    refine ⟨by unfold big; omega, fun d hd => ?_⟩
    have hv := h2 d hd
    exact ⟨⟨by have := hv.cnt; unfold big; omega, fun t ht => pl t (hv.reads t ht)⟩, pl _ hv.wrote⟩
  · simp only [okReads, List.all_eq_true, decide_eq_true_eq]
    exact fun d hd => by have := (h2 d hd).cnt; unfold big; omega
/-- What is parsed is valid, or there is nothing. -/
theorem parsed_ok (s : Bs) : ((parseE s).2.2 = 0 ∧ printE (parseE s).1 = s ∧ (parseE s).2.1 = -1 ∧ checkE (parseE s).1 = 0) ∨ ((parseE s).2.2 ≠ 0 ∧ (parseE s).1 = [] ∧ -1 ≤ (parseE s).2.1) := by
  by_cases h : (parseE s).2.2 = 0
  · obtain ⟨a, b, c⟩ := print_parse (s := s) (a := (parseE s).1) (m := (parseE s).2.1) (by rw [← h])
    exact .inl ⟨h, a, b, c⟩
  · have := parse_fault _ _ _ _ h
    exact .inr ⟨h, this⟩

section
variable {G : Gam}
theorem call_print (hP : G Fn.record_Print = some (.pure F_Print)) {xs : List Done} (ho : okR xs = true) (st : Bool) (h : Heap) : opV G st h (.call Fn.record_Print) (some [.sl (doneRows xs)]) = some (.tup [.str (printR xs).1, .int .i64 (printR xs).2], h) :=
  op_call hP (us := [.sl (doneRows xs)]) rfl (F1_use (A := eSl rDone) (R := eTup2 eStr eInt) (f := fun r => if okR r = true ∧ (checkE r = 0 → okPr r = true) then some (printR r) else none) (x := xs) (r := printR xs) (if_pos ⟨ho, valid_okPr⟩)) (.inl rfl)
theorem call_rprint (hP : G Fn.licitref17_Print = some (.pure F_refPrint)) {xs : List Done} (ho : okR xs = true) (st : Bool) (h : Heap) : opV G st h (.call Fn.licitref17_Print) (some [.sl (doneRows xs)]) = some (.tup [.str (printR xs).1, .int .i64 (printR xs).2], h) :=
  op_call hP (us := [.sl (doneRows xs)]) rfl (F1_use (A := eSl rDone) (R := eTup2 eStr eInt) (f := fun r => if okR r = true ∧ (refCheckE r = 0 → okP2 r = true) then some (printRR r) else none) (x := xs) (r := printR xs) (by
    rw [if_pos ⟨ho, fun h => valid_okP2 (by rw [check_eq]; exact h)⟩, prints_eq])) (.inl rfl)
theorem call_parse (hP : G Fn.record_Parse = some (.pure F_Parse)) {s : Bs} (hs : s.length < 4294967281) (st : Bool) (h : Heap) : opV G st h (.call Fn.record_Parse) (some [.str s]) = some (.tup [.sl (doneRows (parseE s).1), .int .i64 (parseE s).2.1, .int .i64 (parseE s).2.2], h) :=
  op_call hP (us := [.str s]) rfl (by simp only [F_Parse]; rw [if_pos hs]) (.inr rfl)
theorem call_rparse (hP : G Fn.licitref17_Parse = some (.pure F_refParse)) {s : Bs} (hs : s.length < 4294967281) (st : Bool) (h : Heap) : opV G st h (.call Fn.licitref17_Parse) (some [.str s]) = some (.tup [.sl (doneRows (parseE s).1), .int .i64 (parseE s).2.1, .int .i64 (parseE s).2.2], h) :=
  op_call hP (us := [.str s]) rfl (by simp only [F_refParse]; rw [if_pos hs, parse_eq]) (.inr rfl)
theorem call_diverge (hD : G Fn.record_Diverge = some (.pure F_Diverge)) {a : List Done} (h : checkE a = 0) (st : Bool) (hp : Heap) : opV G st hp (.call Fn.record_Diverge) (some [.sl (doneRows a), .sl (doneRows a)]) = some (.int .i64 (-1), hp) := by
  obtain ⟨h1, _⟩ := checkE_valid h
  refine op_call hD rfl ?_ (.inl rfl)
  simp only [F_Diverge, dec_doneRows]
  rw [if_pos ⟨by unfold big; omega, by unfold big; omega, (valid_ok h).2⟩, div_self]
end

def okTx (r : List Done) (s : Bs) : Bool := okR r && decide (s.length < 4294967281)
def F_RecordTexts : List AV → Option AV := F2 (eSl rDone) eStr eBool fun r s => if okTx r s then some true else none
theorem RecordTexts_ok (G : Gam) (hA : G Fn.licitlaw17_awake = some (.pure F_awake)) (hF : G Fn.licitref17_Few = some (.pure F_Few)) (hP : G Fn.record_Print = some (.pure F_Print)) (hRP : G Fn.licitref17_Print = some (.pure F_refPrint))
    (hQ : G Fn.record_Parse = some (.pure F_Parse)) (hRQ : G Fn.licitref17_Parse = some (.pure F_refParse)) (hS : G Fn.licitlaw17_same = some (.pure F_same)) : ∀ args r, F_RecordTexts args = some r → wpM G Mc.licitlaw17_RecordTexts (pureQ Rs.licitlaw17_RecordTexts r) [] (frInit Ks.licitlaw17_RecordTexts args) [] := F2_ok fun xs s r h => by
  split at h
  · rename_i hok
    injection h with h; subst h
    simp only [okTx, Bool.and_eq_true, decide_eq_true_eq] at hok
    obtain ⟨ho, hs⟩ := hok
    have cA : ∀ st h, opV G st h (.call Fn.licitlaw17_awake) (some []) = some (.bool true, h) := fun st h => op_call hA rfl rfl (.inl rfl)
    have cF : ∀ st h, opV G st h (.call Fn.licitref17_Few) (some [.sl (doneRows xs)]) = some (.bool (fewE xs), h) := fun st h => op_call hF rfl (F1_use (A := eSl rDone) (R := eBool) (x := xs) (if_pos ho)) (.inl rfl)
    have c1 := call_print hP ho
    have c2 := call_rprint hRP ho
    have c3 := call_parse hQ hs
    have c4 := call_rparse hRQ hs
    have c5 : ∀ st h, opV G st h (.call Fn.licitlaw17_same) (some [.sl (doneRows (parseE s).1), .sl (doneRows (parseE s).1)]) = some (.bool true, h) := fun st h => by
      have hb : (parseE s).1.length ≤ big ∧ okReads (parseE s).1 = true := by
        rcases parsed_ok s with ⟨_, _, _, h4⟩ | ⟨_, h4, _⟩
        · exact ⟨by have := (checkE_valid h4).1; unfold big; omega, (valid_ok h4).2⟩
        · rw [h4]; exact ⟨by simp, rfl⟩
      exact op_call hS rfl (F2_use (A := eSl rDone) (B := eSl rDone) (R := eBool) (x := (parseE s).1) (y := (parseE s).1) (r := true) (by rw [if_pos ⟨hb.1, hb.1, hb.2⟩, div_self]; rfl)) (.inl rfl)
    rw [wpM_go, eSl_done]
    generalize hpr : printR xs = pr at *
    generalize hps : parseE s = ps at *
    have e1 : binAV .eql (.str pr.1) (.str pr.1) = some (.bool true) := by simp [binAV, strBin]
    have e2 : ∀ n : Int, eqB n n = true := fun n => eqB_iff.2 rfl
    cases hf : fewE xs with
    | false => simp [Mc.licitlaw17_RecordTexts, frInit, Ks.licitlaw17_RecordTexts, cA, cF, hf, Rs.licitlaw17_RecordTexts, eStr, eBool]
    | true =>
      cases hl : ltB 3000 (s.length : Int) with
      | true => simp [Mc.licitlaw17_RecordTexts, frInit, Ks.licitlaw17_RecordTexts, cA, cF, hf, hl, lenAV, Rs.licitlaw17_RecordTexts, eStr, eBool]
      | false => simp [Mc.licitlaw17_RecordTexts, frInit, Ks.licitlaw17_RecordTexts, cA, cF, hf, hl, lenAV, c1, c2, c3, c4, c5, e1, e2, Rs.licitlaw17_RecordTexts, eStr, eBool]
  · cases h

def F_RecordBack : List AV → Option AV := F2 (eSl rDone) eStr eBool fun r s => if okTx r s then some true else none
theorem RecordBack_ok (G : Gam) (hA : G Fn.licitlaw17_awake = some (.pure F_awake)) (hF : G Fn.licitref17_Few = some (.pure F_Few)) (hK : G Fn.record_Check = some (.pure F_Check)) (hP : G Fn.record_Print = some (.pure F_Print))
    (hQ : G Fn.record_Parse = some (.pure F_Parse)) (hD : G Fn.record_Diverge = some (.pure F_Diverge)) : ∀ args r, F_RecordBack args = some r → wpM G Mc.licitlaw17_RecordBack (pureQ Rs.licitlaw17_RecordBack r) [] (frInit Ks.licitlaw17_RecordBack args) [] := F2_ok fun xs s r h => by
  split at h
  · rename_i hok
    injection h with h; subst h
    simp only [okTx, Bool.and_eq_true, decide_eq_true_eq] at hok
    obtain ⟨ho, hs⟩ := hok
    have cA : ∀ st h, opV G st h (.call Fn.licitlaw17_awake) (some []) = some (.bool true, h) := fun st h => op_call hA rfl rfl (.inl rfl)
    have cF : ∀ st h, opV G st h (.call Fn.licitref17_Few) (some [.sl (doneRows xs)]) = some (.bool (fewE xs), h) := fun st h => op_call hF rfl (F1_use (A := eSl rDone) (R := eBool) (x := xs) (if_pos ho)) (.inl rfl)
    have cK : ∀ ys, okR ys = true → ∀ st h, opV G st h (.call Fn.record_Check) (some [.sl (doneRows ys)]) = some (.int .i64 (checkE ys), h) := fun ys ho st h => op_call hK rfl (F1_use (A := eSl rDone) (R := eInt) (x := ys) (if_pos ho)) (.inl rfl)
    have c1 := call_print hP ho
    have c3 := call_parse hQ hs
    have k1 := cK xs ho
    rw [wpM_go, eSl_done]
    cases hf : fewE xs with
    | false => simp [Mc.licitlaw17_RecordBack, frInit, Ks.licitlaw17_RecordBack, cA, cF, hf, Rs.licitlaw17_RecordBack, eStr, eBool]
    | true =>
      cases hl : ltB 3000 (s.length : Int) with
      | true => simp [Mc.licitlaw17_RecordBack, frInit, Ks.licitlaw17_RecordBack, cA, cF, hf, hl, lenAV, Rs.licitlaw17_RecordBack, eStr, eBool]
      | false =>
        have e2 : ∀ n : Int, eqB n n = true := fun n => eqB_iff.2 rfl
        by_cases h0 : checkE xs = 0
        · have hpr : printR xs = (printE xs, 0) := by simp [printR, h0]
          rw [hpr] at c1
          rw [h0] at k1
          have c2 := call_parse hQ (s := printE xs) (by have := valid_len h0; omega)
          rw [parse_print h0] at c2
          have c4 := call_diverge hD h0
          rcases parsed_ok s with ⟨a1, a2, a3, a4⟩ | ⟨a1, a2, a3⟩
          · have c5 := call_print hP (valid_ok a4).1
            have hpr2 : printR (parseE s).1 = (s, 0) := by simp [printR, a4, a2]
            rw [hpr2] at c5
            have k2 := cK (parseE s).1 (valid_ok a4).1
            rw [a4] at k2
            rw [a1, a3] at c3
            have e1 : binAV .eql (.str s) (.str s) = some (.bool true) := by simp [binAV, strBin]
            simp [Mc.licitlaw17_RecordBack, frInit, Ks.licitlaw17_RecordBack, cA, cF, hf, hl, lenAV, c1, c2, c3, c4, c5, k1, k2, e1, e2, Rs.licitlaw17_RecordBack, eStr, eBool]
          · have en : eqB (parseE s).2.2 0 = false := eqB_not.2 a1
            have en2 : ltB (parseE s).2.1 (-1) = false := ltB_not.2 (by omega)
            rw [a2] at c3
            have dr0 : doneRows [] = [] := rfl
            simp [Mc.licitlaw17_RecordBack, frInit, Ks.licitlaw17_RecordBack, cA, cF, hf, hl, lenAV, c1, c2, c3, c4, k1, en, en2, e2, dr0, Rs.licitlaw17_RecordBack, eStr, eBool]
        · have hpr : printR xs = ([], 1) := by simp [printR, h0]
          have hz : eqB (checkE xs) 0 = false := eqB_not.2 h0
          have e10 : eqB (1 : Int) 0 = false := eqB_not.2 (by omega)
          rw [hpr] at c1
          rcases parsed_ok s with ⟨a1, a2, a3, a4⟩ | ⟨a1, a2, a3⟩
          · have c5 := call_print hP (valid_ok a4).1
            have hpr2 : printR (parseE s).1 = (s, 0) := by simp [printR, a4, a2]
            rw [hpr2] at c5
            have k2 := cK (parseE s).1 (valid_ok a4).1
            rw [a4] at k2
            rw [a1, a3] at c3
            have e1 : binAV .eql (.str s) (.str s) = some (.bool true) := by simp [binAV, strBin]
            simp [Mc.licitlaw17_RecordBack, frInit, Ks.licitlaw17_RecordBack, cA, cF, hf, hl, lenAV, c1, c3, c5, k1, k2, hz, e10, e1, e2, Rs.licitlaw17_RecordBack, eStr, eBool]
          · have en : eqB (parseE s).2.2 0 = false := eqB_not.2 a1
            have en2 : ltB (parseE s).2.1 (-1) = false := ltB_not.2 (by omega)
            rw [a2] at c3
            have dr0 : doneRows [] = [] := rfl
            simp [Mc.licitlaw17_RecordBack, frInit, Ks.licitlaw17_RecordBack, cA, cF, hf, hl, lenAV, c1, c3, k1, hz, e10, en, en2, e2, dr0, Rs.licitlaw17_RecordBack, eStr, eBool]
  · cases h

end Go.Proofs.YtmjdgpiofhildaaGreatDoor
