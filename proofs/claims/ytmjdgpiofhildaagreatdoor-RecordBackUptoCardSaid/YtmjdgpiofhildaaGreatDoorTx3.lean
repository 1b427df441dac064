/- The reference: decimal numerals. The reference: hexadecimal digits, a touched file's line. The reference: a touched file's line; Print. -/
import Derived.Test.YtmjdgpiofhildaaGreatDoorTx2
import Derived.Test.YtmjdgpiofhildaaGreatDoorTx1
import Derived.Test.YtmjdgpiofhildaaGreatDoorRmD
namespace Go.Proofs.YtmjdgpiofhildaaGreatDoor
open Go.RowKit Go.IntWalk

theorem dec_small {n : Nat} (h : n < 10) : Lib.decDigits n = [UInt8.ofNat (48 + n)] := by rw [Lib.decDigits]; simp [h]
theorem dec_big {n : Nat} (h : ¬ n < 10) : Lib.decDigits n = Lib.decDigits (n / 10) ++ Lib.decDigits (n % 10) := by
  rw [Lib.decDigits]; simp only [h, dite_false]
  rw [dec_small (n := n % 10) (by omega)]
theorem dec_len : ∀ (k n : Nat), n < 10 ^ k → (Lib.decDigits n).length ≤ k + 1
  | 0, n, h => by
    have : n = 0 := by simpa using h
    subst this; rw [dec_small (by omega)]; simp
  | k + 1, n, h => by
    by_cases h1 : n < 10
    · rw [dec_small h1]; simp
    · rw [dec_big h1, dec_small (n := n % 10) (by omega)]
      have := dec_len k (n / 10) (by rw [Nat.pow_succ] at h; omega)
      simp; omega
theorem itoa_dec {n : Int} (h : 0 ≤ n) : Lib.itoa n = Lib.decDigits n.toNat := by
  unfold Lib.itoa; rw [if_neg (by omega)]

/-- Numbers of at most k digits. -/
def F_Dec (k : Nat) : List AV → Option AV
  | [.int .i64 n] => if 0 ≤ n ∧ n < 10 ^ k then some (.str (Lib.decDigits n.toNat)) else none
  | _ => none

theorem Dec_ok {G : Gam} (k : Nat) (hk : k < 10) (hG : k = 0 ∨ G Fn.licitref16_Decimal = some (.pure (F_Dec k))) : ∀ args r, F_Dec (k + 1) args = some r → wpM G Mc.licitref16_Decimal (pureQ Rs.licitref16_Decimal r) [] (frInit Ks.licitref16_Decimal args) [] := by
  intro args r hF
  unfold F_Dec at hF
  split at hF
  · rename_i n
    split at hF
    · rename_i hn
      injection hF with hF; subst hF
      obtain ⟨m, rfl⟩ : ∃ m : Nat, n = m := ⟨n.toNat, by omega⟩
      have hm : m < 10 ^ (k + 1) := by
        have h2 := hn.2
        have : ((10 ^ (k + 1) : Nat) : Int) = (10 : Int) ^ (k + 1) := by simp
        omega
      have hsm : m < 10000000000 := Nat.lt_of_lt_of_le hm (by
        have := Nat.pow_le_pow_right (n := 10) (by omega) (show k + 1 ≤ 10 by omega)
        omega)
      simp only [Int.toNat_natCast]
      rw [wpM_go]
      by_cases h10 : m < 10
      · have e1 : ltB (m : Int) 10 = true := ltB_iff.2 (by omega)
        have e2 : binAV .add (.int .i64 48) (.int .i64 m) = some (.int .i64 ((48 + m : Nat) : Int)) := by
          have : IntKind.i64.wrap (48 + (m : Int)) = ((48 + m : Nat) : Int) := by
            rw [show (48 : Int) + m = ((48 + m : Nat) : Int) by omega]; exact i64_small (by omega) (by omega)
          simp only [binAV, intBin]
          simp [this]
        rw [dec_small h10]
        obtain ⟨q, hq⟩ : ∃ q, q = 48 + m := ⟨_, rfl⟩
        rw [← hq] at e2 ⊢
        have e3 : IntKind.u8.wrap (q : Int) = q := u8_wrap (by omega)
        have e4 : bytesOfRows [[AV.int .u8 (q : Int)]] = some [UInt8.ofNat q] := by
          simp [bytesOfRows]; omega
        have e5 : opV G false [] .b2s (some [.tsl [[AV.int .u8 (q : Int)]]]) = some (.str [UInt8.ofNat q], []) := by
          rw [opV_quiet rfl]
          simp [evalPure, rowsOf, e4]
        simp [Mc.licitref16_Decimal, Ks.licitref16_Decimal, frInit, upd, lkp, e1, e2, e3, e5, ownsL, owns, viewL, view, sizesOk, onesOk, oneC, AV.cells, pureQ, Rs.licitref16_Decimal]
      · have e1 : ltB (m : Int) 10 = false := ltB_not.2 (by omega)
        have hk0 : k ≠ 0 := fun e => by subst e; simp at hm; omega
        have hG := hG.resolve_left hk0
        have e2 : binAV .quo (.int .i64 m) (.int .i64 10) = some (.int .i64 ((m / 10 : Nat) : Int)) := by
          have e : ((m : Int).tdiv 10) = ((m / 10 : Nat) : Int) := by rw [Int.tdiv_eq_ediv_of_nonneg (by omega)]; omega
          have e2 : IntKind.i64.wrap ((m / 10 : Nat) : Int) = ((m / 10 : Nat) : Int) := i64_in _ ⟨by omega, by omega⟩
          simp only [binAV, intBin]
          simp only [reduceCtorEq, or_self, if_false, if_true, e, e2]
          simp
        have e3 : binAV .rem (.int .i64 m) (.int .i64 10) = some (.int .i64 ((m % 10 : Nat) : Int)) := by
          have e : ((m : Int).tmod 10) = ((m % 10 : Nat) : Int) := by rw [Int.tmod_eq_emod_of_nonneg (by omega)]; omega
          simp only [binAV, intBin]
          simp [e]
        obtain ⟨a, ha⟩ : ∃ a, a = m / 10 := ⟨_, rfl⟩
        obtain ⟨b, hb⟩ : ∃ b, b = m % 10 := ⟨_, rfl⟩
        rw [← ha] at e2
        rw [← hb] at e3
        have hpk : ((10 ^ k : Nat) : Int) = (10 : Int) ^ k := by simp
        have h10k : 10 ≤ 10 ^ k := by
          have := Nat.pow_le_pow_right (n := 10) (by omega) (show 1 ≤ k by omega)
          simpa using this
        have ha2 : a < 10 ^ k := by rw [Nat.pow_succ] at hm; omega
        have hb2 : b < 10 ^ k := by omega
        have c1 : ∀ st h, opV G st h (.call Fn.licitref16_Decimal) (some [.int .i64 a]) = some (.str (Lib.decDigits a), h) := fun st h => op_call hG (us := [.int .i64 a]) rfl (by
          simp only [F_Dec]; rw [if_pos ⟨by omega, by omega⟩]; simp) (.inl rfl)
        have c2 : ∀ st h, opV G st h (.call Fn.licitref16_Decimal) (some [.int .i64 b]) = some (.str (Lib.decDigits b), h) := fun st h => op_call hG (us := [.int .i64 b]) rfl (by
          simp only [F_Dec]; rw [if_pos ⟨by omega, by omega⟩]; simp) (.inl rfl)
        have l1 := dec_len k a ha2
        have l2 := dec_len k b hb2
        have s1 := str_add (a := Lib.decDigits a) (b := Lib.decDigits b) (by unfold strMax; omega)
        rw [dec_big h10, ← ha, ← hb]
        simp [Mc.licitref16_Decimal, Ks.licitref16_Decimal, frInit, upd, lkp, e1, e2, e3, c1, c2, s1, pureQ, Rs.licitref16_Decimal]
    · cases hF
  · cases hF

end Go.Proofs.YtmjdgpiofhildaaGreatDoor

namespace Go.Proofs.YtmjdgpiofhildaaGreatDoor
open Go.RowKit Go.IntWalk

theorem quo16 (b : UInt8) : binAV .quo (.int .u8 (b.toNat : Int)) (.int .u8 16) = some (.int .u8 ((b.toNat / 16 : Nat) : Int)) := by
  have hb := b.toNat_lt
  have e : ((b.toNat : Int).tdiv 16) = ((b.toNat / 16 : Nat) : Int) := by rw [Int.tdiv_eq_ediv_of_nonneg (by omega)]; omega
  have e2 : IntKind.u8.wrap ((b.toNat / 16 : Nat) : Int) = ((b.toNat / 16 : Nat) : Int) := u8_wrap (by omega)
  simp only [binAV, intBin]
  simp only [reduceCtorEq, or_self, if_false, if_true, e, e2]
  simp
theorem rem16 (b : UInt8) : binAV .rem (.int .u8 (b.toNat : Int)) (.int .u8 16) = some (.int .u8 ((b.toNat % 16 : Nat) : Int)) := by
  have e : ((b.toNat : Int).tmod 16) = ((b.toNat % 16 : Nat) : Int) := by rw [Int.tmod_eq_emod_of_nonneg (by omega)]; omega
  simp only [binAV, intBin]
  simp [e]

/-- What has been put out so far. -/
def HexI (s : Bs) (i : Nat) (x : AV) (h : Heap) : Prop := (i = 0 ∧ x = .tsl [] ∧ h = []) ∨ (0 < i ∧ x = .own 0 (2 * i - 2) (2 * i) ∧ h = [.arr 1 (2 * i - 2) ((hexE (s.take i)).map byteRow) true])

theorem HexI.rows {s : Bs} {i : Nat} {x : AV} {h : Heap} (hi : HexI s i x h) (hl : i ≤ s.length) : rowsOf h x = some ((hexE (s.take i)).map byteRow) := by
  rcases hi with ⟨rfl, rfl, rfl⟩ | ⟨h0, rfl, rfl⟩
  · rfl
  · have : (hexE (s.take i)).length = 2 * i := by rw [hexE_len]; simp; omega
    simp [rowsOf, this]
    rw [List.take_of_length_le (by simp [this])]
theorem HexI.trunc {s : Bs} {i : Nat} {x : AV} {h : Heap} (hi : HexI s i x h) (fr : List (Nat × AV)) (hx : (4, x) ∈ fr) : trunc 0 fr h = h := by
  rcases hi with ⟨rfl, rfl, rfl⟩ | ⟨h0, rfl, rfl⟩
  · unfold Go.Proofs.YtmjdgpiofhildaaGreatDoor.trunc; split <;> rfl
  · have : lowFr 0 fr = false := by
      induction fr with
      | nil => cases hx
      | cons q r ih =>
        obtain ⟨k, v⟩ := q
        rcases List.mem_cons.1 hx with e | e
        · injection e with e1 e2; subst e2; simp [lowFr, low]
        · simp [lowFr, ih e]
    unfold Go.Proofs.YtmjdgpiofhildaaGreatDoor.trunc
    rw [this]; rfl
theorem HexI.next {G : Gam} {s : Bs} {i : Nat} {x : AV} {h : Heap} {b : UInt8} (hi : HexI s i x h) (hx : s[i]? = some b) (hb : s.length < big) :
    ∃ x' h', opV G true h (.app false 1 1) (some [x, .tsl [[.int .u8 ((hexDigit (b.toNat / 16)).toNat : Int)], [.int .u8 ((hexDigit (b.toNat % 16)).toNat : Int)]]]) = some (x', h') ∧ HexI s (i + 1) x' h' := by
  have hlt := (List.getElem?_eq_some_iff.1 hx).1
  have htk : s.take (i + 1) = s.take i ++ [b] := by rw [List.take_add_one, hx]; rfl
  have hnext : hexE (s.take (i + 1)) = hexE (s.take i) ++ [hexDigit (b.toNat / 16), hexDigit (b.toNat % 16)] := by rw [htk, hexE_app]; simp [hexE]
  rcases hi with ⟨rfl, rfl, rfl⟩ | ⟨h0, rfl, rfl⟩
  · refine ⟨.own 0 0 2, _, ?_, .inr ⟨by omega, rfl, rfl⟩⟩
    rw [opV_eff rfl, hnext]
    simp [evalEff, appRows, rowsOf, sizesOk, appAV, byteMax, hexE]
  · have hl : (hexE (s.take i)).length = 2 * i := by rw [hexE_len]; simp; omega
    have := op_app (G := G) (s := true) (h := [.arr 1 (2 * i - 2) ((hexE (s.take i)).map byteRow) true]) (n := 1) (b := 1) (l := 0) (ver := 2 * i - 2) (k := 2 * i) (x := .tsl [[.int .u8 ((hexDigit (b.toNat / 16)).toNat : Int)], [.int .u8 ((hexDigit (b.toNat % 16)).toNat : Int)]]) (new := [[.int .u8 ((hexDigit (b.toNat / 16)).toNat : Int)], [.int .u8 ((hexDigit (b.toNat % 16)).toNat : Int)]])
      (rows := (hexE (s.take i)).map byteRow) rfl rfl (by simp [hl]) rfl (by simp) (by unfold big at hb; unfold byteMax; simp; omega) (by unfold big at hb; unfold byteMax; simp; omega)
    refine ⟨_, _, this, .inr ⟨by omega, ?_, ?_⟩⟩
    · simp; omega
    · rw [hnext]; simp; omega

def F_hexR : List AV → Option AV
  | [.str s] => if s.length < big then some (.str (hexE s)) else none
  | _ => none

theorem hexr_L0 (G : Gam) (s : Bs) (hb : s.length < big) {ks : List MK} {Q : MPost} : ∀ (rest : Bs) (i : Nat) (x : AV) (h : Heap), s.drop i = rest → i ≤ s.length → HexI s i x h →
    (∀ env x h, rowsOf h x = some ((hexE s).map byteRow) → exM G .normal ks Q env [(0, .str s), (2, .str []), (3, .str hexDigits), (4, x), (5, .int .i64 s.length)] h) →
    headM G [] Mc.licitref17_hex_L0 0 (.blk 0 :: ks) Q [(0, .str s), (2, .str []), (3, .str hexDigits), (4, x), (5, .int .i64 i)] h
  | [], i, x, h, hd, hi, hI, hk => by
    have hi2 := drop_nil hd
    have e : i = s.length := by omega
    subst e
    refine head_go (Mc.licitref17_hex_L0.eq_1) ?_
    rw [hI.trunc _ (by simp [junkAll])]
    have hr := hI.rows (Nat.le_refl _)
    rw [List.take_length] at hr
    simp
    simpa using hk _ x h hr
  | b :: rest, i, x, h, hd, hi, hI, hk => by
    obtain ⟨hi2, hx, hxd⟩ := drop_cons hd
    have hi' : ltB i s.length = true := ltB_iff.2 (by omega)
    have hw := wrap1 (i := i) (by omega)
    obtain ⟨x', h', c5, hI'⟩ := hI.next (G := G) hx hb
    have ih := hexr_L0 G s hb rest (i + 1) x' h' (by rw [← hxd]) (by omega) hI' hk
    have s1 := quo16 b
    have s2 := rem16 b
    have hbt := b.toNat_lt
    have dg : ∀ n : Nat, n < 16 → ∀ h, opV G true h .istr (some [.str hexDigits, .int .u8 n]) = some (.int .u8 ((hexDigit n).toNat : Int), h) := fun n hn h => op_istr (by
      unfold hexDigit
      rw [List.getD_eq_getElem?_getD]
      have : n < hexDigits.length := hn
      simp [this])
    have c1 : ∀ h, opV G true h .istr (some [.str s, .int .i64 i]) = some (.int .u8 b.toNat, h) := fun h => op_istr hx
    have c3 := fun h => dg (b.toNat / 16) (by omega) h
    have c4 := fun h => dg (b.toNat % 16) (by omega) h
    obtain ⟨q, hq⟩ : ∃ q, q = b.toNat / 16 := ⟨_, rfl⟩
    obtain ⟨m, hm⟩ : ∃ m, m = b.toNat % 16 := ⟨_, rfl⟩
    rw [← hq] at s1 c3 c5
    rw [← hm] at s2 c4 c5
    refine head_go (Mc.licitref17_hex_L0.eq_1) ?_
    rw [hI.trunc _ (by simp [junkAll])]
    simp [hi', c1, c3, c4, c5, s1, s2, hw, ownsL, owns, viewL, view, sizesOk, onesOk, oneC, AV.cells]
    exact ih

theorem hexr_ok {G : Gam} : ∀ args r, F_hexR args = some r → wpM G Mc.licitref17_hex (pureQ Rs.licitref17_hex r) [] (frInit Ks.licitref17_hex args) [] := by
  intro args r hF
  unfold F_hexR at hF
  split at hF
  · rename_i s
    split at hF
    · rename_i hb
      injection hF with hF; subst hF
      rw [wpM_go]
      have lp := fun ks hk => hexr_L0 G s hb (ks := ks) (Q := pureQ Rs.licitref17_hex (.str (hexE s))) s 0 (.tsl []) [] rfl (by omega) (.inl ⟨rfl, rfl, rfl⟩) hk
      have cb : opV G false [] (.bsl false 1) (some []) = some (.tsl [], []) := rfl
      simp [Mc.licitref17_hex, Ks.licitref17_hex, frInit, upd, lkp, cb, -op_bsl]
      refine lp _ (fun env x h hr => ?_)
      have c1 : ∀ st, opV G st h .b2s (some [x]) = some (.str (hexE s), h) := fun st => by
        rw [opV_quiet rfl]
        simp [evalPure, hr, bytes_back]
      simp [c1, pureQ, Rs.licitref17_hex]
    · cases hF
  · cases hF

end Go.Proofs.YtmjdgpiofhildaaGreatDoor

namespace Go.Proofs.YtmjdgpiofhildaaGreatDoor
open Go.RowKit Go.IntWalk

def lineR (word : Bs) (t : Touch) : Bs := word ++ [32] ++ t.path ++ [32] ++ hexE t.dig ++ [10]
def F_touchR : List AV → Option AV
  | [.str word, .agg [.str p, .str d]] => if d.length < big ∧ (lineR word ⟨p, d⟩).length ≤ strMax then some (.str (lineR word ⟨p, d⟩)) else none
  | _ => none

theorem touchR_ok {G : Gam} (hH : G Fn.licitref17_hex = some (.pure F_hexR)) : ∀ args r, F_touchR args = some r → wpM G Mc.licitref17_touch (pureQ Rs.licitref17_touch r) [] (frInit Ks.licitref17_touch args) [] := by
  intro args r hF
  unfold F_touchR at hF
  split at hF
  · rename_i word p d
    split at hF
    · rename_i hc
      obtain ⟨hd, hc2⟩ := hc
      injection hF with hF; subst hF
      have hlen : word.length + 1 + p.length + 1 + (hexE d).length + 1 ≤ strMax := by
        simp [lineR] at hc2; omega
      have g1 : loadAV 1 false [Blk.cells [.str p, .str d]] (.ptr 0 1) = some (.str d) := ld_cell rfl rfl
      have g0 : loadAV 1 false [Blk.cells [.str p, .str d]] (.ptr 0 0) = some (.str p) := ld_cell rfl rfl
      have c1 : ∀ st h, opV G st h (.call Fn.licitref17_hex) (some [.str d]) = some (.str (hexE d), h) := fun st h => op_call hH (us := [.str d]) rfl (by simp [F_hexR, hd]) (.inl rfl)
      have s1 := str_add (a := word) (b := [32]) (by simp; omega)
      have s2 := str_add (a := word ++ [32]) (b := p) (by simp; omega)
      have s3 := str_add (a := word ++ [32] ++ p) (b := [32]) (by simp; omega)
      have s4 := str_add (a := word ++ [32] ++ p ++ [32]) (b := hexE d) (by simp; omega)
      have s5 := str_add (a := word ++ [32] ++ p ++ [32] ++ hexE d) (b := [10]) (by simp; omega)
      rw [wpM_go]
      simp [Mc.licitref17_touch, Ks.licitref17_touch, frInit, upd, lkp, -List.append_assoc, g0, g1, c1, s1, s2, s3, s4, s5, pureQ, Rs.licitref17_touch, lineR, -loadAV]
    · cases hF
  · cases hF

def stepLineR (d : Done) : Bs := wStep ++ Lib.decDigits d.pkg.toNat ++ [32] ++ Lib.decDigits d.line.toNat ++ [32] ++ Lib.decDigits d.kind.toNat ++ [10]
def rdLinesR (ts : List Touch) : Bs := ts.flatMap (lineR wRead)
def doneRE (d : Done) : Bs := stepLineR d ++ rdLinesR d.reads ++ lineR wWrite d.wrote
def printRE (r : List Done) : Bs := r.flatMap doneRE
def n4 (n : Int) : Bool := decide (0 ≤ n) && decide (n < 10000)
def okD2 (d : Done) : Bool := n4 d.pkg && n4 d.line && n4 d.kind && d.reads.all (fun t => decide (t.dig.length < big)) && decide (d.wrote.dig.length < big)

theorem printR_L1 (G : Gam) (hT : G Fn.licitref17_touch = some (.pure F_touchR)) (a0 : AV) (ts : List Touch) (i : Nat) (R : List AV) (h3 : R[3]? = some (.sl (touchRows ts))) (o : Bs) (ha : low 1 a0 = true) (hRl : lowL 1 R = true) (hd : ∀ t ∈ ts, t.dig.length < big) (hlen : ts.length ≤ big) {ks : List MK} {Q : MPost} :
    ∀ (rest : List Touch) (k : Nat), ts.drop k = rest → k ≤ ts.length → o.length + (rdLinesR ts).length ≤ strMax →
    (∀ env, exM G .normal ks Q env [(0, a0), (2, .str []), (3, .int .i64 0), (4, .str (o ++ rdLinesR ts)), (5, .int .i64 i), (6, .ptr 0 0), (7, .int .i64 ts.length)] [.cells R]) →
    headM G [] Mc.licitref17_Print_L1 1 (.blk 2 :: ks) Q [(0, a0), (2, .str []), (3, .int .i64 0), (4, .str (o ++ rdLinesR (ts.take k))), (5, .int .i64 i), (6, .ptr 0 0), (7, .int .i64 k)] [.cells R]
  | [], k, hdr2, hk, hb, hfin => by
    have hi2 := drop_nil hdr2
    have e : k = ts.length := by omega
    subst e
    have l3 : loadAV 1 false [Blk.cells R] (.ptr 0 3) = some (.sl (touchRows ts)) := ld_cell rfl h3
    rw [List.take_length]
    refine head_go (Mc.licitref17_Print_L1.eq_1) ?_
    rw [trunc_len (n := 1) rfl]
    simp [l3, lenAV, -loadAV]
    simpa using hfin _
  | ⟨p, d⟩ :: rest, k, hdr2, hk, hb, hfin => by
    obtain ⟨t, ht⟩ : ∃ t : Touch, t = ⟨p, d⟩ := ⟨_, rfl⟩
    obtain ⟨hi2, hx, hxd⟩ := drop_cons hdr2
    rw [← ht] at hx hdr2
    have l3 : loadAV 1 false [Blk.cells R] (.ptr 0 3) = some (.sl (touchRows ts)) := ld_cell rfl h3
    have hi' : ltB k ts.length = true := ltB_iff.2 (by omega)
    have hw := wrap1 (i := k) (by omega)
    have hia := fun h => iadr_sl (h := h) (k := .i64) (touchRows_get hx) (size := 2) rfl
    have htk : ts.take (k + 1) = ts.take k ++ [t] := by rw [List.take_add_one, hx]; rfl
    have hnext : rdLinesR (ts.take (k + 1)) = rdLinesR (ts.take k) ++ lineR wRead t := by rw [htk]; simp [rdLinesR]
    have hall : rdLinesR ts = rdLinesR (ts.take k) ++ lineR wRead t ++ rdLinesR rest := by
      conv => lhs; rw [← List.take_append_drop k ts, hdr2]
      simp [rdLinesR]
    have hl : (rdLinesR ts).length = (rdLinesR (ts.take k)).length + (lineR wRead t).length + (rdLinesR rest).length := by rw [hall]; simp [Nat.add_assoc]
    have ih := printR_L1 G hT a0 ts i R h3 o ha hRl hd hlen rest (k + 1) (by rw [← hxd]) (by omega) hb hfin
    have hdd := hd t (List.mem_of_getElem? hx)
    obtain ⟨O, hO⟩ : ∃ O, O = o ++ rdLinesR (ts.take k) := ⟨_, rfl⟩
    have hOl : O.length = o.length + (rdLinesR (ts.take k)).length := by rw [hO]; simp
    obtain ⟨L, hL⟩ : ∃ L, L = lineR wRead t := ⟨_, rfl⟩
    have c1 : ∀ st h, opV G st h (.call Fn.licitref17_touch) (some [.str [114, 101, 97, 100], .agg [.str p, .str d]]) = some (.str L, h) := fun st h => op_call hT (us := [.str wRead, .agg [.str p, .str d]]) rfl (by
      simp only [F_touchR]
      rw [if_pos ⟨by rw [ht] at hdd; exact hdd, by rw [← ht]; omega⟩, hL, ht]) (.inl rfl)
    have s1 := str_add (a := O) (b := L) (by rw [hL]; omega)
    have e9 : O ++ L = o ++ rdLinesR (ts.take (k + 1)) := by rw [hO, hL, hnext, List.append_assoc]
    rw [e9] at s1
    rw [← hO]
    refine head_go (Mc.licitref17_Print_L1.eq_1) ?_
    rw [trunc_len (n := 1) rfl]
    simp [l3, lenAV, hi', hia, cut, mkVal, ht, c1, s1, hw, -loadAV, -List.append_assoc]
    refine head_of ?_
    rw [trunc_len (n := 1) rfl]
    simpa using ih

theorem okD2_inv {d : Done} (h : okD2 d = true) : (0 ≤ d.pkg ∧ d.pkg < 10000) ∧ (0 ≤ d.line ∧ d.line < 10000) ∧ (0 ≤ d.kind ∧ d.kind < 10000) ∧ (∀ t ∈ d.reads, t.dig.length < big) ∧ d.wrote.dig.length < big := by
  simp only [okD2, n4, Bool.and_eq_true, decide_eq_true_eq, List.all_eq_true] at h
  exact ⟨h.1.1.1.1, h.1.1.1.2, h.1.1.2, h.1.2, h.2⟩

theorem printR_L0 (G : Gam) (hT : G Fn.licitref17_touch = some (.pure F_touchR)) (hD : G Fn.licitref16_Decimal = some (.pure (F_Dec 4)))
    (xs : List Done) (hd : ∀ d ∈ xs, okD2 d = true) (hr : ∀ d ∈ xs, d.reads.length ≤ big) (hlen : xs.length ≤ big) (hb : (printRE xs).length ≤ strMax) {ks : List MK} {Q : MPost} :
    ∀ (rest : List Done) (i : Nat), xs.drop i = rest → i ≤ xs.length →
    (∀ env, exM G .normal ks Q env [(0, .sl (doneRows xs)), (2, .str []), (3, .int .i64 0), (4, .str (printRE xs)), (5, .int .i64 xs.length), (6, .junk), (7, .junk)] []) →
    ∀ v6 v7 ex, headM G [6, 7] Mc.licitref17_Print_L0 0 (.blk 0 :: ks) Q [(0, .sl (doneRows xs)), (2, .str []), (3, .int .i64 0), (4, .str (printRE (xs.take i))), (5, .int .i64 i), (6, v6), (7, v7)] ex
  | [], i, hdr, hi, hfin, v6, v7, ex => by
    have hi2 := drop_nil hdr
    have e : i = xs.length := by omega
    subst e
    rw [List.take_length]
    refine head_go (Mc.licitref17_Print_L0.eq_1) ?_
    have ht : ∀ fr, lowFr 0 fr = true → trunc 0 fr ex = [] := fun fr h => by simp [trunc, h, lowH]
    rw [ht _ (by simp [junkAll, lowFr, low])]
    simp [lenAV]
    simpa using hfin _
  | ⟨pk, ln, kd, rs, ⟨wp, wd⟩⟩ :: rest, i, hdr, hi, hfin, v6, v7, ex => by
    obtain ⟨dn, hdn⟩ : ∃ dn : Done, dn = ⟨pk, ln, kd, rs, ⟨wp, wd⟩⟩ := ⟨_, rfl⟩
    obtain ⟨hi2, hx, hxd⟩ := drop_cons hdr
    rw [← hdn] at hx hdr
    have hmem := List.mem_of_getElem? hx
    obtain ⟨n1, n2, n3, n4, n5⟩ := okD2_inv (hd dn hmem)
    have n6 := hr dn hmem
    have hi' : ltB i xs.length = true := ltB_iff.2 (by omega)
    have hw := wrap1 (i := i) (by omega)
    have hia := fun h => iadr_sl (h := h) (k := .i64) (doneRows_get hx) (size := 6) rfl
    have htk : xs.take (i + 1) = xs.take i ++ [dn] := by rw [List.take_add_one, hx]; rfl
    have hnext : printRE (xs.take (i + 1)) = printRE (xs.take i) ++ doneRE dn := by rw [htk]; simp [printRE]
    have hall : printRE xs = printRE (xs.take i) ++ doneRE dn ++ printRE rest := by
      conv => lhs; rw [← List.take_append_drop i xs, hdr]
      simp [printRE]
    have hl : (printRE xs).length = (printRE (xs.take i)).length + (doneRE dn).length + (printRE rest).length := by rw [hall]; simp [Nat.add_assoc]
    have hde : (doneRE dn).length = (stepLineR dn).length + (rdLinesR dn.reads).length + (lineR wWrite dn.wrote).length := by simp [doneRE, Nat.add_assoc]
    have ih := printR_L0 G hT hD xs hd hr hlen hb rest (i + 1) (by rw [← hxd]) (by omega) hfin
    subst hdn
    simp only [Done.row] at hia
    dsimp only at hde n1 n2 n3 n4 n5 n6
    obtain ⟨O, hO⟩ : ∃ O, O = printRE (xs.take i) := ⟨_, rfl⟩
    rw [← hO] at hnext hl
    obtain ⟨R, hR⟩ : ∃ R : List AV, R = [.int .i64 pk, .int .i64 ln, .int .i64 kd, .sl (touchRows rs), .str wp, .str wd] := ⟨_, rfl⟩
    have st2 : opV G false [Blk.cells [.int .i64 0, .int .i64 0, .int .i64 0, .nils, .str [], .str []]] (.st 6) (some [.ptr 0 0, .agg [.int .i64 pk, .int .i64 ln, .int .i64 kd, .sl (touchRows rs), .str wp, .str wd]]) = some (.junk, [Blk.cells R]) := by
      rw [op_st, hR]; simp [setAt, AV.cells, oneC]
    have lR : lowL 1 R = true := by rw [hR]; rfl
    have l0 : loadAV 1 false [Blk.cells R] (.ptr 0 0) = some (.int .i64 pk) := ld_cell rfl (by rw [hR]; rfl)
    have l1 : loadAV 1 false [Blk.cells R] (.ptr 0 1) = some (.int .i64 ln) := ld_cell rfl (by rw [hR]; rfl)
    have l2 : loadAV 1 false [Blk.cells R] (.ptr 0 2) = some (.int .i64 kd) := ld_cell rfl (by rw [hR]; rfl)
    have l4 : loadAV 2 true [Blk.cells R] (.ptr 0 4) = some (.agg [.str wp, .str wd]) := by simp [loadAV, cut, mkVal, hR]
    have it : ∀ (n : Int) st h, 0 ≤ n → n < 10000 → opV G st h (.call Fn.licitref16_Decimal) (some [.int .i64 n]) = some (.str (Lib.decDigits n.toNat), h) := fun n st h a b => op_call hD (us := [.int .i64 n]) rfl (by simp only [F_Dec]; rw [if_pos ⟨a, by simpa using b⟩]) (.inl rfl)
    have i1 := fun st h => it pk st h n1.1 n1.2
    have i2 := fun st h => it ln st h n2.1 n2.2
    have i3 := fun st h => it kd st h n3.1 n3.2
    obtain ⟨A, hA⟩ : ∃ A, A = Lib.decDigits pk.toNat := ⟨_, rfl⟩
    obtain ⟨B, hB⟩ : ∃ B, B = Lib.decDigits ln.toNat := ⟨_, rfl⟩
    obtain ⟨C, hC⟩ : ∃ C, C = Lib.decDigits kd.toNat := ⟨_, rfl⟩
    rw [← hA] at i1
    rw [← hB] at i2
    rw [← hC] at i3
    have hsl : (stepLineR ⟨pk, ln, kd, rs, ⟨wp, wd⟩⟩).length = wStep.length + A.length + 1 + B.length + 1 + C.length + 1 := by simp [stepLineR, hA, hB, hC]; omega
    have s0 := str_add (a := O) (b := wStep) (by omega)
    obtain ⟨T0, h0⟩ : ∃ T, T = O ++ wStep := ⟨_, rfl⟩
    have q0 : T0.length = O.length + wStep.length := by rw [h0]; simp
    rw [← h0] at s0
    have s1 := str_add (a := T0) (b := A) (by omega)
    obtain ⟨T1, h1⟩ : ∃ T, T = T0 ++ A := ⟨_, rfl⟩
    have q1 : T1.length = T0.length + A.length := by rw [h1]; simp
    rw [← h1] at s1
    have s2 := str_add (a := T1) (b := [32]) (by simp; omega)
    obtain ⟨T2, h2⟩ : ∃ T, T = T1 ++ [32] := ⟨_, rfl⟩
    have q2 : T2.length = T1.length + 1 := by rw [h2]; simp
    rw [← h2] at s2
    have s3 := str_add (a := T2) (b := B) (by omega)
    obtain ⟨T3, h3⟩ : ∃ T, T = T2 ++ B := ⟨_, rfl⟩
    have q3 : T3.length = T2.length + B.length := by rw [h3]; simp
    rw [← h3] at s3
    have s4 := str_add (a := T3) (b := [32]) (by simp; omega)
    obtain ⟨T4, h4⟩ : ∃ T, T = T3 ++ [32] := ⟨_, rfl⟩
    have q4 : T4.length = T3.length + 1 := by rw [h4]; simp
    rw [← h4] at s4
    have s5 := str_add (a := T4) (b := C) (by omega)
    obtain ⟨T5, h5⟩ : ∃ T, T = T4 ++ C := ⟨_, rfl⟩
    have q5 : T5.length = T4.length + C.length := by rw [h5]; simp
    rw [← h5] at s5
    have s6 := str_add (a := T5) (b := [10]) (by simp; omega)
    obtain ⟨T6, h6⟩ : ∃ T, T = T5 ++ [10] := ⟨_, rfl⟩
    have q6 : T6.length = T5.length + 1 := by rw [h6]; simp
    rw [← h6] at s6
    have hT6 : T6 = O ++ stepLineR ⟨pk, ln, kd, rs, ⟨wp, wd⟩⟩ := by rw [h6, h5, h4, h3, h2, h1, h0]; simp [stepLineR, hA, hB, hC]
    have lp := fun ks hq => printR_L1 G hT (.sl (doneRows xs)) rs i R (by rw [hR]; rfl) T6 rfl lR n4 n6 (ks := ks) (Q := Q) rs 0 rfl (by omega) (by omega) hq
    obtain ⟨U, hU⟩ : ∃ U, U = T6 ++ rdLinesR rs := ⟨_, rfl⟩
    have qU : U.length = T6.length + (rdLinesR rs).length := by rw [hU]; simp
    obtain ⟨L, hL⟩ : ∃ L, L = lineR wWrite ⟨wp, wd⟩ := ⟨_, rfl⟩
    have c1 : ∀ st h, opV G st h (.call Fn.licitref17_touch) (some [.str [119, 114, 105, 116, 101], .agg [.str wp, .str wd]]) = some (.str L, h) := fun st h => op_call hT (us := [.str wWrite, .agg [.str wp, .str wd]]) rfl (by
      simp only [F_touchR]
      rw [if_pos ⟨n5, by omega⟩, hL]) (.inl rfl)
    have s7 := str_add (a := U) (b := L) (by rw [hL]; omega)
    have e9 : U ++ L = printRE (xs.take (i + 1)) := by rw [hU, hL, hT6, hnext]; simp [doneRE]
    rw [e9] at s7
    have tk0 : rdLinesR (rs.take 0) = [] := rfl
    simp only [tk0, List.append_nil, ← hU] at lp
    rw [← hO]
    refine head_go (Mc.licitref17_Print_L0.eq_1) ?_
    have ht : ∀ fr, lowFr 0 fr = true → trunc 0 fr ex = [] := fun fr h => by simp [trunc, h, lowH]
    rw [ht _ (by simp [junkAll, lowFr, low])]
    rw [show wStep = [115, 116, 101, 112, 32] from rfl] at s0
    simp [hi', lenAV, hia, cut, mkVal, st2, l0, l1, l2, i1, i2, i3, s0, s1, s2, s3, s4, s5, s6, -stAV_ptr, -loadAV]
    refine lp _ (fun env => ?_)
    simp [l4, c1, s7, hw, -stAV_ptr, -loadAV]
    exact ih _ _ _

def okP2 (r : List Done) : Bool := r.all okD2 && decide ((printRE r).length ≤ strMax)
def printRR (r : List Done) : Bs × Int := if refCheckE r = 0 then (printRE r, 0) else ([], 1)
def F_refPrint : List AV → Option AV := F1 (eSl rDone) (eTup2 eStr eInt) fun r => if okR r = true ∧ (refCheckE r = 0 → okP2 r = true) then some (printRR r) else none

theorem refPrint_ok (G : Gam) (hT : G Fn.licitref17_touch = some (.pure F_touchR)) (hD : G Fn.licitref16_Decimal = some (.pure (F_Dec 4)))
    (hC : G Fn.licitref17_Check = some (.pure F_refCheck)) : ∀ args r, F_refPrint args = some r → wpM G Mc.licitref17_Print (pureQ Rs.licitref17_Print r) [] (frInit Ks.licitref17_Print args) [] := F1_ok fun xs r h => by
  split at h
  · rename_i ho
    obtain ⟨hoR, ho2⟩ := ho
    injection h with h; subst h
    rw [wpM_go, eSl_done]
    have hc : ∀ st h, opV G st h (.call Fn.licitref17_Check) (some [.sl (doneRows xs)]) = some (.int .i64 (refCheckE xs), h) := fun st h =>
      op_call hC (us := [.sl (doneRows xs)]) rfl (F1_use (A := eSl rDone) (R := eInt) (f := fun r => if okR r then some (refCheckE r) else none) (x := xs) (r := refCheckE xs) (if_pos hoR)) (.inl rfl)
    by_cases h0 : refCheckE xs = 0
    · have hp := ho2 h0
      simp only [okP2, Bool.and_eq_true, decide_eq_true_eq, List.all_eq_true] at hp
      have lp := fun ks hq => printR_L0 G hT hD xs hp.1 (fun d hdm => okR_reads hoR hdm) (okR_len hoR) hp.2 (ks := ks) (Q := pureQ Rs.licitref17_Print ((eTup2 eStr eInt).enc (printRR xs))) xs 0 rfl (by omega) hq .junk .junk []
      have e0 : eqB (refCheckE xs) 0 = true := eqB_iff.2 h0
      simp [Mc.licitref17_Print, Ks.licitref17_Print, frInit, upd, lkp, hc, e0]
      refine lp _ (fun env => ?_)
      simp [pureQ, Rs.licitref17_Print, printRR, h0, eTup2, eStr, eInt]
    · have e0 : eqB (refCheckE xs) 0 = false := eqB_not.2 h0
      simp [Mc.licitref17_Print, Ks.licitref17_Print, frInit, upd, lkp, hc, e0, pureQ, Rs.licitref17_Print, printRR, h0, eTup2, eStr, eInt]
  · cases h

/-- The two texts are one, where digests have 32 bytes. -/
theorem lines_eq {w : Bs} {t : Touch} (h : t.dig.length = 32) : lineE w t = lineR w t := by simp [lineE, lineR, hexS, h]
theorem texts_eq {xs : List Done} (h : ∀ d ∈ xs, okD2 d = true ∧ (∀ t ∈ d.reads, t.dig.length = 32) ∧ d.wrote.dig.length = 32) : printE xs = printRE xs := by
  unfold printE printRE
  induction xs with
  | nil => rfl
  | cons d r ih =>
    obtain ⟨h1, h2, h3⟩ := h d List.mem_cons_self
    obtain ⟨n1, n2, n3, _, _⟩ := okD2_inv h1
    have e1 : stepLine d = stepLineR d := by simp only [stepLine, stepLineR, itoa_dec n1.1, itoa_dec n2.1, itoa_dec n3.1]
    have e2 : ∀ ts : List Touch, (∀ t ∈ ts, t.dig.length = 32) → rdLines ts = rdLinesR ts := fun ts => by
      induction ts with
      | nil => intro _; rfl
      | cons t ts ih2 =>
        intro hh
        have := ih2 fun t ht => hh t (List.mem_cons_of_mem _ ht)
        unfold rdLines rdLinesR at this ⊢
        simp only [List.flatMap_cons, this, lines_eq (hh t List.mem_cons_self)]
    simp only [List.flatMap_cons, doneE, doneRE, e1, e2 _ h2, lines_eq h3, ih fun d hd => h d (List.mem_cons_of_mem _ hd)]

end Go.Proofs.YtmjdgpiofhildaaGreatDoor
