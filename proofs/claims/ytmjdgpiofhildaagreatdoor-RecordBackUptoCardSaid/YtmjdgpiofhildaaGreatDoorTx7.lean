/- The reference: numbers, the step of a line. The reference: the record of a text. -/
import Derived.Test.YtmjdgpiofhildaaGreatDoorTx6
import Derived.Test.YtmjdgpiofhildaaGreatDoorRmE
namespace Go.Proofs.YtmjdgpiofhildaaGreatDoor
open Go.RowKit Go.IntWalk

def numOk (s : Bs) : Bool := decide (s ≠ []) && decide (s.length ≤ 4) && !(decide (1 < s.length) && (s.headD 0 == 48))
def numR (s : Bs) : Int × Bool := if numOk s then (match Lib.parseUint10 0 s with
  | .ok v => ((v : Int), true)
  | _ => (0, false)) else (0, false)
def F_NumR : List AV → Option AV
  | [.str s, .int .i64 n] => if n = 4 ∧ s.length < big then some (.tup [.int .i64 (numR s).1, .bool (numR s).2]) else none
  | _ => none

theorem num_L0 (G : Gam) (s : Bs) (hs : s.length ≤ 4) (fin : Int × Bool) {ks : List MK} : ∀ (rest : Bs) (i a : Nat), s.drop i = rest → i ≤ s.length → a < 10 ^ i →
    fin = (match Lib.parseUint10 a rest with
      | .ok v => ((v : Int), true)
      | _ => (0, false)) →
    (∀ env v i, fin = (v, true) → exM G .normal ks (pureQ Rs.licitref16_Number (.tup [.int .i64 fin.1, .bool fin.2])) env [(0, .str s), (1, .int .i64 4), (4, .int .i64 0), (5, .bool false), (6, .int .i64 v), (7, i)] []) →
    headM G [] Mc.licitref16_Number_L0 0 (.blk 0 :: ks) (pureQ Rs.licitref16_Number (.tup [.int .i64 fin.1, .bool fin.2])) [(0, .str s), (1, .int .i64 4), (4, .int .i64 0), (5, .bool false), (6, .int .i64 a), (7, .int .i64 i)] []
  | [], i, a, hd, hi, ha, hr, hk => by
    have hi2 := drop_nil hd
    have e : i = s.length := by omega
    subst e
    have hl : ltB (s.length : Int) (s.length : Int) = false := ltB_not.2 (by omega)
    simp only [Lib.parseUint10] at hr
    refine head_go (Mc.licitref16_Number_L0.eq_1) ?_
    simp [trunc, lenAV, hl]
    exact hk _ a _ hr
  | b :: r, i, a, hd, hi, ha, hr, hk => by
    obtain ⟨hlt, hx, hxd⟩ := drop_cons hd
    have hl : ltB (i : Int) (s.length : Int) = true := ltB_iff.2 (by omega)
    have is : ∀ st h, opV G st h .istr (some [.str s, .int .i64 i]) = some (.int .u8 b.toNat, h) := fun st h => op_istr hx
    have hw : IntKind.i64.wrap ((i : Int) + 1) = ((i + 1 : Nat) : Int) := wrap1 (by unfold big; omega)
    have hbl := b.toNat_lt
    have ha4 : a < 10000 := by
      have := Nat.pow_le_pow_right (n := 10) (by omega) (show i ≤ 4 by omega)
      omega
    simp only [Lib.parseUint10] at hr
    refine head_go (Mc.licitref16_Number_L0.eq_1) ?_
    by_cases h1 : 48 ≤ b.toNat
    · have e1 : ltB (b.toNat : Int) 48 = false := ltB_not.2 (by omega)
      by_cases h2 : b.toNat ≤ 57
      · have e2 : ltB 57 (b.toNat : Int) = false := ltB_not.2 (by omega)
        rw [if_pos ⟨h1, h2⟩, if_neg (by omega), if_neg (by omega)] at hr
        have ih := num_L0 G s hs fin (ks := ks) r (i + 1) (a * 10 + (b.toNat - 48)) hxd (by omega) (by rw [Nat.pow_succ]; omega) hr hk
        obtain ⟨d, hd2⟩ : ∃ d : Nat, d = b.toNat - 48 := ⟨_, rfl⟩
        have w1 : IntKind.u8.wrap ((b.toNat : Int) - 48) = (d : Int) := by rw [show (b.toNat : Int) - 48 = (d : Int) by omega]; exact u8_wrap (by omega)
        have w2 : IntKind.i64.wrap (d : Int) = d := i64_in _ ⟨by omega, by omega⟩
        have w3 : IntKind.i64.wrap (10 * (a : Int)) = 10 * (a : Int) := i64_in _ ⟨by omega, by omega⟩
        have w4 : IntKind.i64.wrap (10 * (a : Int) + d) = ((a * 10 + d : Nat) : Int) := by rw [show 10 * (a : Int) + d = ((a * 10 + d : Nat) : Int) by omega]; exact i64_in _ ⟨by omega, by omega⟩
        rw [← hd2] at ih
        simp [trunc, lenAV, hl, is, e1, e2, w1, w2, w3, w4, hw]
        simpa using ih
      · have e2 : ltB 57 (b.toNat : Int) = true := ltB_iff.2 (by omega)
        rw [if_neg (by omega)] at hr
        subst hr
        simp [trunc, lenAV, hl, is, e1, e2, pureQ, Rs.licitref16_Number]
    · have e1 : ltB (b.toNat : Int) 48 = true := ltB_iff.2 (by omega)
      rw [if_neg (by omega)] at hr
      subst hr
      simp [trunc, lenAV, hl, is, e1, pureQ, Rs.licitref16_Number]

theorem NumR_ok {G : Gam} : ∀ args r, F_NumR args = some r → wpM G Mc.licitref16_Number (pureQ Rs.licitref16_Number r) [] (frInit Ks.licitref16_Number args) [] := by
  intro args r hF
  unfold F_NumR at hF
  split at hF
  · rename_i s n
    split at hF
    · rename_i hb
      obtain ⟨rfl, hs⟩ := hb
      injection hF with hF; subst hF
      rw [wpM_go]
      have lp := fun hs hr ks hk => num_L0 G s hs (numR s) (ks := ks) s 0 0 rfl (Nat.zero_le _) (by simp) hr hk
      cases s with
      | nil =>
        have e00 : ltB 0 (1 : Int) = true := ltB_iff.2 (by omega)
        simp [Mc.licitref16_Number, Ks.licitref16_Number, frInit, upd, lenAV, numR, numOk, e00, pureQ, Rs.licitref16_Number]
      | cons b r =>
        obtain ⟨m, hm⟩ : ∃ m, m = (b :: r).length := ⟨_, rfl⟩
        have hm1 : 1 ≤ m := by rw [hm]; simp
        have e0 : ltB (m : Int) 1 = false := ltB_not.2 (by omega)
        have i0 : ∀ st h, opV G st h .istr (some [.str (b :: r), .int .i64 0]) = some (.int .u8 b.toNat, h) := fun st h => op_istr (i := 0) rfl
        have ln : ∀ h, lenAV h 0 (.str (b :: r)) = some (.int .i64 m) := fun h => by rw [hm]; rfl
        by_cases h4 : m ≤ 4
        · have e4 : ltB 4 (m : Int) = false := ltB_not.2 (by omega)
          by_cases hz : 1 < m ∧ b = 48
          · obtain ⟨h1, rfl⟩ := hz
            have e1 : ltB 1 (m : Int) = true := ltB_iff.2 (by omega)
            have hn : numR (48 :: r) = (0, false) := by
              unfold numR
              rw [if_neg]
              simp only [numOk, ← hm]
              simp [h1]
            rw [hn]
            simp [Mc.licitref16_Number, Ks.licitref16_Number, frInit, upd, ln, i0, e0, e1, e4, pureQ, Rs.licitref16_Number, -lenAV]
          · have hnk : numOk (b :: r) = true := by
              simp only [numOk, ← hm]
              by_cases h1 : 1 < m
              · have : ¬ b = 48 := fun e => hz ⟨h1, e⟩
                simp [h4, this]
              · simp [h4, h1]
            have hr : numR (b :: r) = (match Lib.parseUint10 0 (b :: r) with
              | .ok v => ((v : Int), true)
              | _ => (0, false)) := by unfold numR; rw [hnk]; rfl
            by_cases h1 : 1 < m
            · have e1 : ltB 1 (m : Int) = true := ltB_iff.2 (by omega)
              have hb : eqB (b.toNat : Int) 48 = false := eqB_not.2 (fun e => hz ⟨h1, by
                have : b.toNat = (48 : UInt8).toNat := by simp; omega
                exact UInt8.toNat_inj.1 this⟩)
              simp [Mc.licitref16_Number, Ks.licitref16_Number, frInit, upd, ln, i0, e0, e1, e4, hb, -lenAV]
              refine lp (by omega) hr _ (fun env v i hv => ?_)
              rw [hv]
              simp [pureQ, Rs.licitref16_Number]
            · have e1 : ltB 1 (m : Int) = false := ltB_not.2 (by omega)
              simp [Mc.licitref16_Number, Ks.licitref16_Number, frInit, upd, ln, i0, e0, e1, e4, -lenAV]
              refine lp (by omega) hr _ (fun env v i hv => ?_)
              rw [hv]
              simp [pureQ, Rs.licitref16_Number]
        · have e4 : ltB 4 (m : Int) = true := ltB_iff.2 (by omega)
          have hn : numR (b :: r) = (0, false) := by
            unfold numR
            rw [if_neg]
            simp only [numOk, ← hm]
            simp [h4]
          rw [hn]
          simp [Mc.licitref16_Number, Ks.licitref16_Number, frInit, upd, ln, e0, e4, pureQ, Rs.licitref16_Number, -lenAV]
    · cases hF
  · cases hF

def hdR : List Bs → Hd × Bool
  | [w, x, y, z] => if w = [115, 116, 101, 112] then (⟨(numR x).1, (numR y).1, (numR z).1⟩, (numR x).2 && (numR y).2 && (numR z).2) else (⟨0, 0, 0⟩, false)
  | _ => (⟨0, 0, 0⟩, false)
def F_headR : List AV → Option AV := fun args => match args with
  | [x] => ((eSl rStr).dec x).bind fun ws => if okW ws then some (.tup [.agg ((hdR ws).1.row .nils), .bool (hdR ws).2]) else none
  | _ => none

theorem headR_ok {G : Gam} (hN : G Fn.licitref16_Number = some (.pure F_NumR)) : ∀ args r, F_headR args = some r → wpM G Mc.licitref17_head (pureKQ Rs.licitref17_head r) [] (frInit Ks.licitref17_head args) [] := by
  intro args r hF
  unfold F_headR at hF
  split at hF
  · rename_i x
    obtain ⟨ws, hdec, hF2⟩ := Option.bind_eq_some_iff.1 hF
    clear hF
    have hx := (eSl rStr).ed x ws hdec
    subst hx
    have hF := hF2
    clear hF2 hdec
    split at hF
    · rename_i ho
      injection hF with hF; subst hF
      simp only [okW, Bool.and_eq_true, decide_eq_true_eq, List.all_eq_true] at ho
      rw [wpM_go]
      show goM G _ _ _ _ (frInit _ [.sl (ws.map rStr.enc)]) _
      have b0 : ∀ st h, opV G st h (.bld [.int .i64 0, .int .i64 0, .int .i64 0, .nils, .str [], .str []] []) (some []) = some (.agg ((⟨0, 0, 0⟩ : Hd).row .nils), h) := fun st h => by rw [opV_quiet rfl]; rfl
      have b1 : ∀ st h (a b c : Int), opV G st h (.bld [.int .i64 0, .int .i64 0, .int .i64 0, .nils, .str [], .str []] [(0, 1), (1, 1), (2, 1)]) (some [.int .i64 a, .int .i64 b, .int .i64 c]) = some (.agg ((⟨a, b, c⟩ : Hd).row .nils), h) := fun st h a b c => by rw [opV_quiet rfl]; rfl
      by_cases h4 : ws.length = 4
      · obtain ⟨w, x, y, z, rfl⟩ : ∃ w x y z, ws = [w, x, y, z] := by
          match ws, h4 with
          | [w, x, y, z], _ => exact ⟨w, x, y, z, rfl⟩
        have nb : ∀ s, s.length < big → ∀ st h, opV G st h (.call Fn.licitref16_Number) (some [.str s, .int .i64 4]) = some (.tup [.int .i64 (numR s).1, .bool (numR s).2], h) := fun s hs st h => op_call hN (us := [.str s, .int .i64 4]) rfl (by
          simp only [F_NumR]; rw [if_pos ⟨trivial, hs⟩]) (.inl rfl)
        have c1 := nb x (ho.2 x (by simp))
        have c2 := nb y (ho.2 y (by simp))
        have c3 := nb z (ho.2 z (by simp))
        by_cases hw : w = [115, 116, 101, 112]
        · subst hw
          obtain ⟨⟨a, p⟩, hx⟩ : ∃ q, q = numR x := ⟨_, rfl⟩
          obtain ⟨⟨b, q⟩, hy⟩ : ∃ q, q = numR y := ⟨_, rfl⟩
          obtain ⟨⟨c, t⟩, hz⟩ : ∃ q, q = numR z := ⟨_, rfl⟩
          have en : hdR [[115, 116, 101, 112], x, y, z] = (⟨a, b, c⟩, p && q && t) := by simp [hdR, ← hx, ← hy, ← hz]
          rw [en]
          rw [← hx] at c1
          rw [← hy] at c2
          rw [← hz] at c3
          simp only at c1 c2 c3
          cases p <;> cases q <;> simp [Mc.licitref17_head, Ks.licitref17_head, frInit, upd, lkp, lenAV, iadrAV, cut, mkVal, c1, c2, c3, b1, Hd.row, setAt, AV.cells, oneC, pureKQ, viewK, viewKL, Rs.licitref17_head]
        · have hb : (w == [115, 116, 101, 112]) = false := by simpa using hw
          simp [Mc.licitref17_head, Ks.licitref17_head, frInit, upd, lkp, lenAV, iadrAV, cut, mkVal, hb, b0, pureKQ, viewK, viewKL, Rs.licitref17_head, hdR, hw, Hd.row, setAt, AV.cells, oneC]
      · have e3 : eqB (ws.length : Int) 4 = false := eqB_not.2 (by omega)
        have hf : hdR ws = (⟨0, 0, 0⟩, false) := by
          unfold hdR
          split
          · simp at h4
          · rfl
        simp [Mc.licitref17_head, Ks.licitref17_head, frInit, upd, lkp, lenAV, e3, cut, mkVal, b0, pureKQ, viewK, viewKL, Rs.licitref17_head, hf, Hd.row, setAt, AV.cells, oneC]
    · cases hF
  · cases hF

theorem PureK.licitref17_head {m : GvP} {G : Gam} (hG : GamOK Tryz.prog (gv1 m) G) {F : List AV → Option AV} (hF : ∀ args r, F args = some r → wpM G Mc.licitref17_head (pureKQ Rs.licitref17_head r) [] (frInit Ks.licitref17_head args) []) : PureOK Tryz.prog (gv1 m) Fn.licitref17_head F :=
  pureK_of (by kernel_rfl) hG Tryz.func48 rfl (ks := Ks.licitref17_head) (rs := Rs.licitref17_head) (by kernel_rfl) (by kernel_rfl) (Ok.licitref17_head m) hF

/-! ### The program's and the reference's numbers are one -/
theorem parse_dec : ∀ (s : Bs) (a v : Nat), 0 < a → Lib.parseUint10 a s = .ok v → Lib.decDigits v = Lib.decDigits a ++ s
  | [], a, v, ha, h => by simp only [Lib.parseUint10] at h; injection h with h; subst h; simp
  | c :: r, a, v, ha, h => by
    simp only [Lib.parseUint10] at h
    split at h
    · rename_i hc
      split at h
      · cases h
      · split at h
        · cases h
        · have ih := parse_dec r (a * 10 + (c.toNat - 48)) v (by omega) h
          rw [ih, dec_big (n := a * 10 + (c.toNat - 48)) (by omega)]
          rw [show (a * 10 + (c.toNat - 48)) / 10 = a by omega, show (a * 10 + (c.toNat - 48)) % 10 = c.toNat - 48 by omega, dec_small (n := c.toNat - 48) (by omega), show 48 + (c.toNat - 48) = c.toNat by omega]
          simp
    · cases h
theorem dec_head : ∀ (k n : Nat), n < k → 0 < n → ∃ c r, Lib.decDigits n = c :: r ∧ 49 ≤ c.toNat ∧ c.toNat ≤ 57 ∧ (r = [] ↔ n < 10)
  | 0, n, h, _ => by omega
  | k + 1, n, h, h0 => by
    by_cases h1 : n < 10
    · refine ⟨UInt8.ofNat (48 + n), [], dec_small h1, ?_, ?_, by simp [h1]⟩ <;> rw [UInt8.toNat_ofNat'] <;> omega
    · obtain ⟨c, r, e, h2, h3, h4⟩ := dec_head k (n / 10) (by omega) (by omega)
      refine ⟨c, r ++ Lib.decDigits (n % 10), by rw [dec_big h1, e]; rfl, h2, h3, ?_⟩
      rw [dec_small (n := n % 10) (by omega)]
      simp [h1]
theorem numR_inv {s : Bs} {v : Int} (h : numR s = (v, true)) : ∃ n : Nat, v = n ∧ s = Lib.decDigits n ∧ s.length ≤ 4 ∧ Lib.parseUint10 0 s = .ok n := by
  unfold numR at h
  split at h
  · rename_i hk
    split at h
    · rename_i n hn
      injection h with h1 h2
      simp only [numOk, Bool.and_eq_true, decide_eq_true_eq, Bool.not_eq_true', Bool.and_eq_false_iff, decide_eq_false_iff_not] at hk
      refine ⟨n, h1.symm, ?_, hk.1.2, hn⟩
      match s, hk, hn with
      | [], hk, hn => exact absurd rfl hk.1.1
      | c :: r, hk, hn =>
        simp only [Lib.parseUint10] at hn
        split at hn
        · rename_i hc
          rw [if_neg (by omega), if_neg (by omega)] at hn
          rcases Nat.eq_or_lt_of_le hc.1 with h0 | h0
          · rcases hk.2 with h5 | h5
            · have : r = [] := List.eq_nil_of_length_eq_zero (by simp only [List.length_cons] at h5; omega)
              subst this
              simp only [Lib.parseUint10] at hn
              injection hn with hn; subst hn
              rw [dec_small (by omega), show 48 + (0 * 10 + (c.toNat - 48)) = c.toNat by omega]
              simp
            · exfalso
              simp at h5
              exact h5 (UInt8.toNat_inj.1 (by simp; omega))
          · have := parse_dec r _ n (by omega) hn
            rw [this, dec_small (by omega), show 48 + (0 * 10 + (c.toNat - 48)) = c.toNat by omega]
            simp
        · cases hn
    · cases h
  · cases h
theorem atoi_digit {c : UInt8} {r : Bs} (h : 48 ≤ c.toNat) : Lib.atoiAll (c :: r) = (match Lib.parseUint10 0 (c :: r) with
    | .range => .range
    | .ok u => if 9223372036854775808 ≤ u then .range else .ok (u : Int)
    | _ => Lib.atoiAll []) := by
  have h1 : (if c.toNat = 43 ∨ c.toNat = 45 then r else c :: r) = c :: r := if_neg (by omega)
  have h3 : ¬ c.toNat = 45 := by omega
  simp only [Lib.atoiAll, h1, Lib.parseMag]
  rw [if_neg (by simp)]
  cases Lib.parseUint10 0 (c :: r) with
  | ok u => simp [h3]
  | _ => rfl
theorem num_eq (s : Bs) : (0 ≤ numE s ↔ (numR s).2 = true) ∧ ((numR s).2 = true → (numR s).1 = numE s) := by
  have fwd : ∀ v, numR s = (v, true) → numE s = v ∧ 0 ≤ v := fun v h => by
    obtain ⟨n, rfl, hs, hl, hp⟩ := numR_inv h
    have hne : s ≠ [] := by rw [hs]; intro e; have := congrArg List.length e; by_cases h0 : n < 10
                            · rw [dec_small h0] at e; cases e
                            · obtain ⟨c, r, e2, _⟩ := dec_head (n + 1) n (by omega) (by omega); rw [e2] at e; cases e
    match s, hne, hp, hl, hs with
    | c :: r, _, hp, hl, hs =>
      have hc : 48 ≤ c.toNat ∧ c.toNat ≤ 57 := by
        simp only [Lib.parseUint10] at hp
        split at hp
        · assumption
        · cases hp
      have hlt : n < 9223372036854775808 := by
        have := dec_len 4
        rcases Nat.lt_or_ge n 9223372036854775808 with h1 | h1
        · exact h1
        · exfalso
          have big : ∀ k m : Nat, 10 ^ k ≤ m → k + 1 ≤ (Lib.decDigits m).length := by
            intro k
            induction k with
            | zero =>
              intro m _
              by_cases h0 : m < 10
              · rw [dec_small h0]; simp
              · rw [dec_big h0, dec_small (n := m % 10) (by omega)]; simp
            | succ k ih =>
              intro m hm
              rw [Nat.pow_succ] at hm
              have hp0 : 0 < 10 ^ k := Nat.pow_pos (by omega)
              rw [dec_big (by omega), dec_small (n := m % 10) (by omega)]
              have := ih (m / 10) (by omega)
              simp; omega
          have := big 4 n (by omega)
          rw [← hs] at this; omega
      have hat : Lib.atoiAll (c :: r) = .ok (n : Int) := by
        rw [atoi_digit hc.1, hp]
        simp only
        rw [if_neg (by omega)]
      refine ⟨?_, by omega⟩
      simp only [numE, hat]
      rw [if_neg (by omega), if_pos (by rw [itoa_dec (by omega)]; simpa using hs.symm)]
  have bwd : 0 ≤ numE s → (numR s).2 = true := fun h => by
    unfold numE at h
    split at h
    · rename_i v hv
      split at h
      · omega
      · rename_i hl
        split at h
        · rename_i hs
          rw [itoa_dec h] at hs
          obtain ⟨n, hn⟩ : ∃ n : Nat, n = v.toNat := ⟨_, rfl⟩
          rw [← hn] at hs
          by_cases h0 : n = 0
          · subst h0
            rw [dec_small (by omega)] at hs
            rw [← hs]
            decide
          · obtain ⟨c, r, e, h2, h3, h4⟩ := dec_head (n + 1) n (by omega) (by omega)
            rw [e] at hs
            subst hs
            have hok : numOk (c :: r) = true := by
              have hcc : ¬ c = 48 := fun e => by subst e; simp at h2
              simp only [numOk]
              simp [hcc]
              simp at hl
              omega
            have hp : Lib.parseUint10 0 (c :: r) = .ok n := by
              rw [atoi_digit (by omega)] at hv
              split at hv
              · cases hv
              · rename_i u hu
                split at hv
                · cases hv
                · injection hv with hv
                  rw [hu]
                  congr 1
                  omega
              · simp [Lib.atoiAll] at hv
            unfold numR
            rw [hok, hp]
            rfl
        · omega
    · omega
  refine ⟨⟨bwd, fun h => ?_⟩, fun h => ?_⟩
  · obtain ⟨v, b⟩ : ∃ v, numR s = (v, true) := ⟨(numR s).1, by rw [← h]⟩
    have := fwd v b
    omega
  · obtain ⟨v, b⟩ : ∃ v, numR s = (v, true) := ⟨(numR s).1, by rw [← h]⟩
    rw [(fwd v b).1, b]

theorem hd_eq (ws : List Bs) : (hdE ws).2 = (hdR ws).2 ∧ ((hdE ws).2 = true → (hdE ws).1 = (hdR ws).1) := by
  unfold hdE hdR
  split
  · rename_i w x y z
    by_cases hw : w = [115, 116, 101, 112]
    · simp only [if_pos hw]
      obtain ⟨a1, a2⟩ := num_eq x
      obtain ⟨b1, b2⟩ := num_eq y
      obtain ⟨c1, c2⟩ := num_eq z
      refine ⟨?_, fun h => ?_⟩
      · rw [Bool.eq_iff_iff]
        simp only [Bool.and_eq_true, decide_eq_true_eq]
        rw [a1, b1, c1]
      · simp only [Bool.and_eq_true, decide_eq_true_eq] at h
        rw [a2 (a1.1 h.1.1), b2 (b1.1 h.1.2), c2 (c1.1 h.2)]
    · simp [hw]
  · simp

end Go.Proofs.YtmjdgpiofhildaaGreatDoor

namespace Go.Proofs.YtmjdgpiofhildaaGreatDoor
open Go.RowKit Go.IntWalk

/-- The array for what the open step reads, the variable of that step. -/
inductive RH : Option (Hd × List Touch) → Blk → List AV → Prop
  | closed (v0 : Nat) (rows0 : List (List AV)) (wr0 : Bool) (xs : List AV) (hl : xs.length = 6) (hw : lowL 4 xs = true) : RH none (.arr 2 v0 rows0 wr0) xs
  | opened (hd : Hd) (v0 : Nat) (rows0 : List (List AV)) (wr0 : Bool) : RH (some (hd, [])) (.arr 2 v0 rows0 wr0) (hd.row .nils)
  | reading (hd : Hd) (rs : List Touch) (v0 : Nat) (h : rs ≠ []) : RH (some (hd, rs)) (.arr 2 v0 (touchRows rs) true) (hd.row (.own 0 v0 rs.length))

def RHeap (b0 : Blk) (dn : List Done) (xs : List AV) (ex : Heap) : Heap := b0 :: .arr 6 0 [] true :: .arr 6 dn.length (doneRows dn) true :: .cells xs :: ex

theorem RH.low {o : Option (Hd × List Touch)} {b0 : Blk} {xs : List AV} (h : RH o b0 xs) : lowB 4 b0 = true ∧ lowL 4 xs = true ∧ xs.length = 6 := by
  cases h with
  | closed v0 rows0 wr0 xs hl hw => exact ⟨rfl, hw, hl⟩
  | opened => exact ⟨rfl, by simp [Hd.row], rfl⟩
  | reading => exact ⟨rfl, by simp [Hd.row], rfl⟩
theorem rh_trunc {o : Option (Hd × List Touch)} {b0 : Blk} {dn : List Done} {xs : List AV} {ex : Heap} {fr : List (Nat × AV)} (hp : RH o b0 xs) (hf : lowFr 4 fr = true) : trunc 4 fr (RHeap b0 dn xs ex) = RHeap b0 dn xs [] := by
  unfold trunc
  have ht : (RHeap b0 dn xs ex).take 4 = RHeap b0 dn xs [] := rfl
  have hl : lowH 4 (RHeap b0 dn xs []) = true := by
    obtain ⟨h1, h2, _⟩ := hp.low
    simp only [RHeap, lowH, h1, Bool.true_and, Bool.and_true]
    simp [lowB, h2]
  rw [ht, hf, hl]; rfl

section
variable {G : Gam} {st : Bool}
theorem rh_len {b0 : Blk} {dn : List Done} {xs : List AV} {ex : Heap} : (RHeap b0 dn xs ex).length = ex.length + 4 := rfl
theorem rh_app {b0 : Blk} {dn : List Done} {xs : List AV} {ex y : Heap} : RHeap b0 dn xs ex ++ y = RHeap b0 dn xs (ex ++ y) := rfl
theorem rh_var {b0 : Blk} {dn : List Done} {xs zs ys : List AV} {n : Nat} (h1 : zs.length = n) (h2 : ys.length = n) (h3 : 0 < n) (h4 : ys.all oneC = true) :
    opV G st (RHeap b0 dn xs [.cells zs]) (.pre [.nest] (.st n)) (some [.ptr 4 0, .agg ys]) = some (.junk, RHeap b0 dn xs [.cells ys]) := by
  rw [opV_pre rfl]
  simp only [preAVs, preAV, Option.bind_some]
  rw [op_st]
  have hg : (RHeap b0 dn xs [.cells zs])[4]? = some (.cells zs) := rfl
  have hs : setAt zs 0 ys = ys := by
    rw [setAt_splice ys zs 0 (by omega)]; simp; omega
  simp only [stAV, AV.cells, h2, h3, h4, and_self, if_true, hg, hs, Nat.zero_add, h1, Nat.le_refl]
  rfl
theorem rh_ldvar {b0 : Blk} {dn : List Done} {xs ys : List AV} {n : Nat} (h2 : ys.length = n) : loadAV n true (RHeap b0 dn xs [.cells ys]) (.ptr 4 0) = some (.agg ys) := by
  have hg : (RHeap b0 dn xs [.cells ys])[4]? = some (.cells ys) := rfl
  simp only [loadAV, hg, cut, List.drop_zero]
  rw [List.take_of_length_le (by omega)]
  simp [mkVal, h2]
/-- A new step. -/
theorem rh_open {o : Option (Hd × List Touch)} {b0 : Blk} {dn : List Done} {xs : List AV} {ex : Heap} (hd : Hd) (hp : RH o b0 xs) :
    opV G st (RHeap b0 dn xs ex) (.pre [.nest] (.st 6)) (some [.ptr 3 0, .agg (hd.row .nils)]) = some (.junk, RHeap b0 dn (hd.row .nils) ex) ∧ RH (some (hd, [])) b0 (hd.row .nils) := by
  refine ⟨?_, ?_⟩
  · rw [opV_pre rfl]
    simp only [preAVs, preAV, Option.bind_some]
    rw [op_st]
    have hg : (RHeap b0 dn xs ex)[3]? = some (.cells xs) := rfl
    have hl := hp.low.2.2
    have hs : setAt xs 0 (hd.row .nils) = hd.row .nils := by
      rw [setAt_splice _ xs 0 (by simp [Hd.row]; omega)]; simp [Hd.row]; omega
    have hr : (hd.row .nils).length = 6 := rfl
    have h1 : (hd.row .nils).all oneC = true := rfl
    simp only [stAV, AV.cells, hr, h1, hg, hs, hl, and_self, if_true, Nat.zero_add, Nat.le_refl, Nat.zero_lt_succ]
    rfl
  · cases hp with
    | closed v0 rows0 wr0 xs hl hw => exact .opened hd v0 rows0 wr0
    | opened hd' v0 rows0 wr0 => exact .opened hd v0 rows0 wr0
    | reading hd' rs v0 h => exact .opened hd v0 _ _

theorem rh_load {hd : Hd} {rs : List Touch} {b0 : Blk} {dn : List Done} {xs : List AV} {ex : Heap} (hp : RH (some (hd, rs)) b0 xs) : ∃ x, loadAV 1 false (RHeap b0 dn xs ex) (.ptr 3 3) = some x ∧ ∀ h, lenAV h 1 x = some (.int .i64 rs.length) := by
  cases hp with
  | opened hd v0 rows0 wr0 => exact ⟨.nils, by simp [loadAV, RHeap, cut, Hd.row], fun h => rfl⟩
  | reading hd rs v0 h => exact ⟨.own 0 v0 rs.length, by simp [loadAV, RHeap, cut, Hd.row], fun h => rfl⟩

theorem rh_st3 {b0 : Blk} {dn : List Done} {hd : Hd} {x y : AV} {ex : Heap} (hy : oneC y = true) : opV G st (RHeap b0 dn (hd.row x) ex) (.pre [.nest] (.st 1)) (some [.ptr 3 3, y]) = some (.junk, RHeap b0 dn (hd.row y) ex) := by
  rw [opV_pre rfl]
  simp only [preAVs, preAV, Option.bind_some]
  rw [op_st]
  have hc : y.cells = [y] := by cases y <;> first | rfl | cases hy
  simp [stAV, RHeap, Hd.row, hc, hy, setAt]

theorem rh_read {hd : Hd} {rs : List Touch} {b0 : Blk} {dn : List Done} {xs : List AV} {ex : Heap} (t : Touch) (hp : RH (some (hd, rs)) b0 xs) (hb : rs.length < big) :
    ∃ x x' b0' xs', loadAV 1 false (RHeap b0 dn xs ex) (.ptr 3 3) = some x ∧ opV G st (RHeap b0 dn xs ex) (.pre [.settle, .slot 0] (.app false 2 32)) (some [x, .tsl [t.row]]) = some (x', RHeap b0' dn xs ex) ∧
      opV G st (RHeap b0' dn xs ex) (.pre [.nest] (.st 1)) (some [.ptr 3 3, x']) = some (.junk, RHeap b0' dn xs' ex) ∧ RH (some (hd, rs ++ [t])) b0' xs' := by
  cases hp with
  | opened hd v0 rows0 wr0 =>
    refine ⟨.nils, .own 0 (v0 + 1 + 1) 1, .arr 2 (v0 + 1 + 1) (touchRows [t]) true, hd.row (.own 0 (v0 + 1 + 1) 1), by simp [loadAV, RHeap, cut, Hd.row], ?_, rh_st3 rfl, .reading hd [t] (v0 + 1 + 1) (by simp)⟩
    rw [opV_pre rfl]
    have hg : (RHeap (.arr 2 v0 rows0 wr0) dn (hd.row .nils) ex)[0]? = some (.arr 2 v0 rows0 wr0) := rfl
    simp only [preAVs, preAV, settleL, settle1, Option.map_some, Option.bind_some, hg]
    have := op_app (G := G) (s := false) (h := (RHeap (.arr 2 v0 rows0 wr0) dn (hd.row .nils) ex).set 0 (.arr 2 (v0 + 1) [] true)) (n := 2) (b := 32) (l := 0) (ver := v0 + 1) (k := 0) (x := .tsl [t.row]) (new := [t.row]) (rows := []) rfl rfl rfl rfl (by simp)
      (by unfold byteMax; simp) (by unfold byteMax; simp)
    exact this
  | reading hd rs v0 h =>
    refine ⟨.own 0 v0 rs.length, .own 0 (v0 + 1) (rs.length + 1), .arr 2 (v0 + 1) (touchRows (rs ++ [t])) true, hd.row (.own 0 (v0 + 1) (rs ++ [t]).length), by simp [loadAV, RHeap, cut, Hd.row], ?_, ?_, .reading hd (rs ++ [t]) (v0 + 1) (by simp)⟩
    · rw [opV_pre rfl]
      have hg : (RHeap (.arr 2 v0 (touchRows rs) true) dn (hd.row (.own 0 v0 rs.length)) ex)[0]? = some (.arr 2 v0 (touchRows rs) true) := rfl
      simp only [preAVs, preAV, settleL, settle1, Option.map_some, Option.bind_some, hg]
      have := op_app (G := G) (s := false) (h := RHeap (.arr 2 v0 (touchRows rs) true) dn (hd.row (.own 0 v0 rs.length)) ex) (n := 2) (b := 32) (l := 0) (ver := v0) (k := rs.length) (x := .tsl [t.row]) (new := [t.row]) (rows := touchRows rs) rfl rfl (by simp) rfl (by simp)
        (by unfold big at hb; unfold byteMax; simp; omega) (by unfold big at hb; unfold byteMax; simp; omega)
      rw [this]
      simp [touchRows, RHeap]
    · have hll : (rs ++ [t]).length = rs.length + 1 := by simp
      rw [hll]
      exact rh_st3 rfl

/-- The step is closed: what it wrote, the step itself. -/
theorem rh_write {hd : Hd} {rs : List Touch} {b0 : Blk} {dn : List Done} {xs : List AV} {ex : Heap} (t : Touch) (hp : RH (some (hd, rs)) b0 xs) (hr : rs ≠ []) (hb : dn.length < big) :
    ∃ xs' b0' ys, opV G st (RHeap b0 dn xs ex) (.pre [.nest] (.st 2)) (some [.ptr 3 4, .agg t.row]) = some (.junk, RHeap b0 dn xs' ex) ∧ loadAV 6 true (RHeap b0 dn xs' ex) (.ptr 3 0) = some (.agg xs') ∧
      opV G false (RHeap b0 dn xs' ex) (.bsl false 6) (some [.agg xs']) = some (.tsl [ys], RHeap b0' dn xs' ex) ∧
      opV G st (RHeap b0' dn xs' ex) (.pre [.settle, .slot 0] (.app false 6 80)) (some [.own 2 dn.length dn.length, .tsl [ys]]) = some (.own 2 (dn.length + 1) (dn.length + 1), RHeap b0' (dn ++ [mkDone hd rs t]) xs' ex) ∧ RH none b0' xs' := by
  cases hp with
  | opened hd v0 rows0 wr0 => exact absurd rfl hr
  | reading hd rs v0 h =>
    have hlow : lowL 4 ((mkDone hd rs t).rowX (.own 0 v0 rs.length)) = true := by simp [Done.rowX]
    refine ⟨(mkDone hd rs t).rowX (.own 0 v0 rs.length), .arr 2 v0 (touchRows rs) false, (mkDone hd rs t).row, ?_, ?_, ?_, ?_, .closed v0 _ _ _ rfl hlow⟩
    · rw [opV_pre rfl]
      simp only [preAVs, preAV, Option.bind_some]
      rw [op_st]
      simp [stAV, RHeap, Hd.row, AV.cells, Touch.row, oneC, setAt, Done.rowX, mkDone]
    · simp [loadAV, RHeap, cut, Done.rowX, mkVal]
    · have hro : rowsOf (RHeap (.arr 2 v0 (touchRows rs) true) dn ((mkDone hd rs t).rowX (.own 0 v0 rs.length)) ex) (.own 0 v0 rs.length) = some (touchRows rs) := rows_own (l := 0) rfl (by simp)
      have hv : viewL (RHeap (.arr 2 v0 (touchRows rs) true) dn ((mkDone hd rs t).rowX (.own 0 v0 rs.length)) ex) [.agg ((mkDone hd rs t).rowX (.own 0 v0 rs.length))] = some [.agg (mkDone hd rs t).row] := by
        generalize RHeap (.arr 2 v0 (touchRows rs) true) dn ((mkDone hd rs t).rowX (.own 0 v0 rs.length)) ex = H at hro
        simp [viewL, view, Done.rowX, hro, mkDone, Done.row]
      have ho : ownsL [.agg ((mkDone hd rs t).rowX (.own 0 v0 rs.length))] = [0] := by simp [ownsL, owns, Done.rowX]
      have e : ∀ H vs, opV G false H (.bsl false 6) (some vs) = evalEff G H (.bsl false 6) vs := fun _ _ => rfl
      rw [e]
      simp only [evalEff, frzL, hv, ho, Option.map_some]
      have h1 : sizesOk 6 ([AV.agg (mkDone hd rs t).row].map AV.cells) = true := rfl
      have h2 : onesOk ([AV.agg (mkDone hd rs t).row].map AV.cells) = true := rfl
      rw [if_pos ⟨h1, h2, by omega, by simp⟩]
      rfl
    · rw [opV_pre rfl]
      have hg : (RHeap (.arr 2 v0 (touchRows rs) false) dn ((mkDone hd rs t).rowX (.own 0 v0 rs.length)) ex)[2]? = some (.arr 6 dn.length (doneRows dn) true) := rfl
      simp only [preAVs, preAV, settleL, settle1, Option.map_some, Option.bind_some, hg]
      have := op_app (G := G) (s := false) (h := RHeap (.arr 2 v0 (touchRows rs) false) dn ((mkDone hd rs t).rowX (.own 0 v0 rs.length)) ex) (n := 6) (b := 80) (l := 2) (ver := dn.length) (k := dn.length) (x := .tsl [(mkDone hd rs t).row]) (new := [(mkDone hd rs t).row]) (rows := doneRows dn) rfl rfl (by simp) rfl (by simp)
        (by unfold big at hb; unfold byteMax; simp; omega) (by unfold big at hb; unfold byteMax; simp; omega)
      rw [this]
      simp [RHeap, doneRows_app]
end

def parseRE (s : Bs) : List Done × Int × Int := parseL hdR fileR refCheckE (splitBy 10 s) 0 [] none
def F_refParse : List AV → Option AV
  | [.str s] => if s.length < 4294967281 then some (.tup [.sl (doneRows (parseRE s).1), .int .i64 (parseRE s).2.1, .int .i64 (parseRE s).2.2]) else none
  | _ => none

theorem fileR_okT {l : Bs} (h : l.length < 4294967281) : okT (fileR (splitBy 32 l)).1 = true := by
  have hm := splitBy_mem 32 l
  generalize splitBy 32 l = ws at hm
  unfold fileR
  split
  · rename_i p hh
    split
    · rfl
    · have := hm p (by simp); simp only [okT, decide_eq_true_eq]; omega
  · rfl

theorem rparse_L0 (G : Gam) (hC : G Fn.licitref16_Cut = some (.pure F_CutR)) (hst : G Fn.licitref17_head = some (.pure F_headR)) (hfl : G Fn.licitref17_file = some (.pure F_fileR)) (s : Bs) (ls : List Bs) (hls : ∀ l ∈ ls, l.length < 4294967281) (hlb : ls.length < 4294967290) (fin : List Done × Int × Int) {ks : List MK} :
    ∀ (rest : List Bs) (i : Nat) (dn : List Done) (o : Option (Hd × List Touch)) (b0 : Blk) (xs : List AV) (ex : Heap) (v11 v12 v13 v14 v15 : AV), ls.drop i = rest → rest ≠ [] → RH o b0 xs → OkS i dn o →
    fin = parseL hdR fileR refCheckE rest i dn o →
    (∀ z dn' o' b0' xs' ex' env, ls[ls.length - 1]? = some z → fin = parseL hdR fileR refCheckE [z] (ls.length - 1) dn' o' → RH o' b0' xs' → OkS (ls.length - 1) dn' o' →
      exM G .normal ks (pureQ Rs.licitref17_Parse (.tup [.sl (doneRows fin.1), .int .i64 fin.2.1, .int .i64 fin.2.2])) env [(0, .str s), (2, .own 1 0 0), (3, .int .i64 0), (4, .int .i64 0), (5, .sl (ls.map rStr.enc)), (6, .int .i64 (ls.length - 1 : Nat)), (7, .own 2 dn'.length dn'.length), (8, .bool o'.isSome), (9, .ptr 3 0), (10, .int .i64 (ls.length - 1 : Nat)), (11, .junk), (12, .junk), (13, .junk), (14, .junk), (15, .junk), (16, .junk)] (RHeap b0' dn' xs' ex')) →
    headM G [11, 12, 13, 14, 15] Mc.licitref17_Parse_L0 4 (.blk 0 :: ks) (pureQ Rs.licitref17_Parse (.tup [.sl (doneRows fin.1), .int .i64 fin.2.1, .int .i64 fin.2.2]))
      [(0, .str s), (2, .own 1 0 0), (3, .int .i64 0), (4, .int .i64 0), (5, .sl (ls.map rStr.enc)), (6, .int .i64 (ls.length - 1 : Nat)), (7, .own 2 dn.length dn.length), (8, .bool o.isSome), (9, .ptr 3 0), (10, .int .i64 i), (11, v11), (12, v12), (13, v13), (14, v14), (15, v15), (16, .junk)] (RHeap b0 dn xs ex)
  | [], i, dn, o, b0, xs, ex, v11, v12, v13, v14, v15, hd, hne, hp, hok, hr, hk => absurd rfl hne
  | [z], i, dn, o, b0, xs, ex, v11, v12, v13, v14, v15, hd, hne, hp, hok, hr, hk => by
    obtain ⟨hlt, hx, hxd⟩ := drop_cons hd
    have := drop_nil hxd
    have e : i = ls.length - 1 := by omega
    have hl : ltB (i : Int) ((ls.length - 1 : Nat) : Int) = false := ltB_not.2 (by omega)
    refine head_go (Mc.licitref17_Parse_L0.eq_1) ?_
    rw [rh_trunc hp (by simp [junkAll, lowFr, low])]
    simp [hl]
    have := hk z dn o b0 xs [] [(25, .bool false), (24, .int .i64 (ls.length - 1 : Nat)), (23, .int .i64 i)] (by rw [← e]; exact hx) (by rw [← e]; exact hr) hp (by rw [← e]; exact hok)
    rw [← e] at this ⊢
    exact this
  | l :: l2 :: tl, i, dn, o, b0, xs, ex, v11, v12, v13, v14, v15, hd, hne, hp, hok, hr, hk => by
    obtain ⟨hlt, hx, hxd⟩ := drop_cons hd
    obtain ⟨hlt2, _, _⟩ := drop_cons hxd
    have hl : ltB (i : Int) ((ls.length - 1 : Nat) : Int) = true := ltB_iff.2 (by omega)
    have hll := hls l (List.mem_of_getElem? hx)
    have hia : ∀ h, iadrAV 1 h (.sl (ls.map rStr.enc)) (.int .i64 i) = some (.fptr [.str l] 0) := fun h => iadr_sl (row := [.str l]) (by simp [hx, rStr, rOne, eStr]) rfl
    have c2 : ∀ st h, opV G st h (.call Fn.licitref16_Cut) (some [.str l, .int .u8 32]) = some (.sl ((splitBy 32 l).map rStr.enc), h) := fun st h => op_call hC (us := [.str l, .int .u8 32]) rfl (by
      simp only [F_CutR]; rw [if_pos ⟨by omega, by omega, hll⟩]; rfl) (.inr rfl)
    have how := okW_split (s := l) hll
    have hw : IntKind.i64.wrap ((i : Int) + 1) = ((i + 1 : Nat) : Int) := wrap1 (by unfold big; omega)
    refine head_go (Mc.licitref17_Parse_L0.eq_1) ?_
    rw [rh_trunc hp (by simp [junkAll, lowFr, low])]
    cases o with
    | none =>
      have c3 : ∀ st h, opV G st h (.call Fn.licitref17_head) (some [.sl ((splitBy 32 l).map rStr.enc)]) = some (.tup [.agg ((hdR (splitBy 32 l)).1.row .nils), .bool (hdR (splitBy 32 l)).2], h) := fun st h => op_call hst rfl (by
        have hd := (eSl rStr).de (splitBy 32 l)
        simp only [F_headR]
        rw [show AV.sl ((splitBy 32 l).map rStr.enc) = (eSl rStr).enc (splitBy 32 l) from rfl, hd]
        simp [how]) (.inr rfl)
      simp only [parseL] at hr
      have st1 := rh_var (G := G) (st := false) (b0 := b0) (dn := dn) (xs := xs) (zs := [.int .i64 0, .int .i64 0, .int .i64 0, .nils, .str [], .str []]) (ys := (hdR (splitBy 32 l)).1.row .nils) (n := 6) rfl rfl (by omega) rfl
      cases hb : (hdR (splitBy 32 l)).2 with
      | false =>
        rw [hb] at hr c3
        have hr' : fin = ([], (i : Int), 4) := by simpa using hr
        subst hr'
        have dr0 : doneRows [] = [] := rfl
        have rn : rowsOf (RHeap b0 dn xs [.cells ((hdR (splitBy 32 l)).1.row .nils), .arr 2 0 [] true, .arr 6 0 [] true]) (.own 6 0 0) = some [] := rfl
        simp [hl, hia, cut, op_settle_call, settleL, settle1, c2, c3, op_newnil_sp, rh_len, rh_app, st1, rn, pureQ, Rs.licitref17_Parse, dr0]
      | true =>
        rw [hb] at hr c3
        simp only [if_true] at hr
        have ld := rh_ldvar (b0 := b0) (dn := dn) (xs := xs) (ys := (hdR (splitBy 32 l)).1.row .nils) (n := 6) rfl
        obtain ⟨q1, q2⟩ := rh_open (G := G) (st := false) (dn := dn) (ex := [.cells ((hdR (splitBy 32 l)).1.row .nils)]) (hdR (splitBy 32 l)).1 hp
        have ih := rparse_L0 G hC hst hfl s ls hls hlb fin (ks := ks) (l2 :: tl) (i + 1) dn (some ((hdR (splitBy 32 l)).1, [])) b0 ((hdR (splitBy 32 l)).1.row .nils) [.cells ((hdR (splitBy 32 l)).1.row .nils)]
          (.sl ((splitBy 32 l).map rStr.enc)) (.ptr 4 0) (.bool true) .junk .junk hxd (by simp) q2 ⟨by have := hok.1; omega, hok.2.1, fun hd rs e => by injection e with e; injection e with e1 e2; subst e2; simp⟩ hr hk
        generalize (hdR (splitBy 32 l)).1 = hd0 at *
        simp [hl, hia, cut, op_settle_call, settleL, settle1, c2, c3, rh_len, rh_app, st1, ld, q1, hw, -loadAV]
        exact ih
    | some q =>
      obtain ⟨hd0, rs⟩ := q
      have hok3 := hok.2.2 hd0 rs rfl
      have c3 : ∀ st h, opV G st h (.call Fn.licitref17_file) (some [.sl ((splitBy 32 l).map rStr.enc)]) = some (.tup [.agg (fileR (splitBy 32 l)).1.row, .bool (fileR (splitBy 32 l)).2], h) := fun st h => op_call hfl rfl (by
        have := F1_use (A := eSl rStr) (R := eTup2 (eAgg rTouch) eBool) (f := fun ws => if okW ws then some (fileR ws) else none) (x := splitBy 32 l) (r := fileR (splitBy 32 l)) (by simp only [how, if_true])
        exact this) (.inr rfl)
      simp only [parseL] at hr
      have hft := fileR_okT (l := l) hll
      have st1 := rh_var (G := G) (st := false) (b0 := b0) (dn := dn) (xs := xs) (zs := [.str [], .str []]) (ys := (fileR (splitBy 32 l)).1.row) (n := 2) rfl rfl (by omega) rfl
      obtain ⟨ws, hws⟩ : ∃ ws, ws = splitBy 32 l := ⟨_, rfl⟩
      have hne2 : ws ≠ [] := by rw [hws]; exact splitBy_ne 32 l
      rw [← hws] at c2 c3 hr hft st1
      obtain ⟨⟨t, ok⟩, hfe⟩ : ∃ q, q = fileR ws := ⟨_, rfl⟩
      rw [← hfe] at c3 hr hft st1
      simp only at c3 hr hft st1
      obtain ⟨w, wr, hwr⟩ : ∃ w wr, ws = w :: wr := by
        cases ws with
        | nil => exact absurd rfl hne2
        | cons w wr => exact ⟨w, wr, rfl⟩
      have hw0 : wd0 ws = w := by rw [hwr]; rfl
      rw [hw0] at hr
      have ld14 := fun dn xs b0 => rh_ldvar (b0 := b0) (dn := dn) (xs := xs) (ys := t.row) (n := 2) rfl
      have hi0 : ∀ h, iadrAV 1 h (.sl (ws.map rStr.enc)) (.int .i64 0) = some (.fptr [.str w] 0) := fun h => by rw [hwr]; simp [iadrAV, rStr, rOne, eStr]
      obtain ⟨x, hx1, hx2⟩ := rh_load (dn := dn) (ex := [.cells t.row]) hp
      have hlo : ∀ h l v n, lenAV h 1 (.own l v n) = some (.int .i64 n) := fun _ _ _ _ => rfl
      have dr0 : doneRows [] = [] := rfl
      have rn : rowsOf (RHeap b0 dn xs [.cells t.row, .arr 2 0 [] true, .arr 6 0 [] true]) (.own 6 0 0) = some [] := rfl
      cases ok with
      | false =>
        have hr' : fin = ([], (i : Int), 4) := by simpa using hr
        subst hr'
        simp [hl, hia, cut, op_settle_call, settleL, settle1, c2, c3, op_newnil_sp, rh_len, rh_app, st1, rn, pureQ, Rs.licitref17_Parse, dr0]
      | true =>
        simp only [Bool.true_and] at hr
        have bs : ∀ st h, opV G st h (.bsl false 2) (some [.agg t.row]) = some (.tsl [t.row], h) := fun st h => by rw [op_bsl rfl]; simp [viewL, view, Touch.row, AV.cells, sizesOk, onesOk, oneC]
        by_cases hw1 : w = wRd
        · have hwb : (w == wRd) = true := by simpa using hw1
          have hwb' : (w == [114, 101, 97, 100]) = true := hwb
          have hwc' : (w == [119, 114, 105, 116, 101]) = false := by rw [hw1]; rfl
          rw [hwb] at hr
          simp only [if_true] at hr
          obtain ⟨x, x', b0', xs', r1, r2, r3, r4⟩ := rh_read (G := G) (st := false) (dn := dn) (ex := [.cells t.row]) t hp (by unfold big; omega)
          have ih := rparse_L0 G hC hst hfl s ls hls hlb fin (ks := ks) (l2 :: tl) (i + 1) dn (some (hd0, rs ++ [t])) b0' xs' [.cells t.row]
            (.sl (ws.map rStr.enc)) .junk .junk (.ptr 4 0) (.bool true) hxd (by simp) r4
            ⟨by have := hok.1; omega, hok.2.1, fun hd2 rs2 e => by
              injection e with e; injection e with e1 e2; subst e2
              refine ⟨by simp; omega, fun u hu => ?_⟩
              rcases List.mem_append.1 hu with hu | hu
              · exact hok3.2 u hu
              · simp at hu; subst hu; exact hft⟩ hr hk
          simp [hl, hia, cut, op_settle_call, settleL, settle1, c2, c3, rh_len, rh_app, st1, hi0, hwb', hwc', ld14, bs, r1, r2, r3, hw, -loadAV]
          exact ih
        · have hwb : (w == wRd) = false := by simpa using hw1
          have hwb' : (w == [114, 101, 97, 100]) = false := hwb
          rw [hwb] at hr
          simp only [Bool.false_eq_true, if_false] at hr
          by_cases hw2 : w = wWr
          · have hwc : (w == wWr) = true := by simpa using hw2
            have hwc' : (w == [119, 114, 105, 116, 101]) = true := hwc
            rw [hwc] at hr
            simp only [Bool.true_and] at hr
            by_cases hrs : rs = []
            · subst hrs
              have hr' : fin = ([], (i : Int), 4) := by simpa using hr
              subst hr'
              simp [hl, hia, cut, op_settle_call, settleL, settle1, c2, c3, op_newnil_sp, rh_len, rh_app, st1, rn, pureQ, Rs.licitref17_Parse, dr0, hi0, hwb', hwc', hx1, hx2, -loadAV, -lenAV]
            · have hre : rs.isEmpty = false := by cases rs with
                | nil => exact absurd rfl hrs
                | cons a b => rfl
              rw [hre] at hr
              simp only [Bool.not_false, if_true] at hr
              obtain ⟨xs', b0', ys, r1, r2, r3, r4, r5⟩ := rh_write (G := G) (st := false) (ex := [.cells t.row]) t hp hrs (show dn.length < big by have := hok.1; unfold big; omega)
              have hl0 : eqB (rs.length : Int) 0 = false := eqB_not.2 (by have := List.length_pos_iff.2 hrs; omega)
              have ih := rparse_L0 G hC hst hfl s ls hls hlb fin (ks := ks) (l2 :: tl) (i + 1) (dn ++ [mkDone hd0 rs t]) none b0' xs' [.cells t.row]
                (.sl (ws.map rStr.enc)) .junk .junk (.ptr 4 0) (.bool true) hxd (by simp) r5
                ⟨by have := hok.1; rw [List.length_append, List.length_singleton]; omega, fun d hd2 => by
                  rcases List.mem_append.1 hd2 with h | h
                  · exact hok.2.1 d h
                  · simp at h; subst h
                    simp only [okD, mkDone, Bool.and_eq_true]
                    exact ⟨⟨decide_eq_true (by have := hok3.1; unfold big; omega), List.all_eq_true.2 hok3.2⟩, hft⟩, fun hd2 rs2 e => by cases e⟩ hr hk
              simp only [List.length_append, List.length_singleton] at ih
              simp [hl, hia, cut, op_settle_call, settleL, settle1, c2, c3, rh_len, rh_app, st1, hi0, hwb', hwc', hx1, hx2, hlo, hl0, ld14, r1, r2, r3, r4, hw, -loadAV, -lenAV, -op_bsl]
              exact ih
          · have hwc : (w == wWr) = false := by simpa using hw2
            have hwc' : (w == [119, 114, 105, 116, 101]) = false := hwc
            rw [hwc] at hr
            have hr' : fin = ([], (i : Int), 4) := by simpa using hr
            subst hr'
            simp [hl, hia, cut, op_settle_call, settleL, settle1, c2, c3, op_newnil_sp, rh_len, rh_app, st1, rn, pureQ, Rs.licitref17_Parse, dr0, hi0, hwb', hwc', -loadAV, -lenAV]

theorem splitBy_drop (c : UInt8) (s : Bs) : (splitBy c s).length ≠ 0 := fun e => splitBy_ne c s (List.eq_nil_of_length_eq_zero e)

theorem refParse_ok {G : Gam} (hC : G Fn.licitref16_Cut = some (.pure F_CutR)) (hst : G Fn.licitref17_head = some (.pure F_headR)) (hfl : G Fn.licitref17_file = some (.pure F_fileR)) (hK : G Fn.licitref17_Check = some (.pure F_refCheck)) :
    ∀ args r, F_refParse args = some r → wpM G Mc.licitref17_Parse (pureQ Rs.licitref17_Parse r) [] (frInit Ks.licitref17_Parse args) [] := by
  intro args r hF
  unfold F_refParse at hF
  split at hF
  · rename_i s
    split at hF
    · rename_i hb
      injection hF with hF; subst hF
      rw [wpM_go]
      have hlen := splitBy_len 10 s
      have hne := splitBy_drop 10 s
      have hmem : ∀ l ∈ splitBy 10 s, l.length < 4294967281 := fun l hl => by have := splitBy_mem 10 s l hl; omega
      have c0 : ∀ st h, opV G st h (.call Fn.licitref16_Cut) (some [.str s, .int .u8 10]) = some (.sl ((splitBy 10 s).map rStr.enc), h) := fun st h => op_call hC (us := [.str s, .int .u8 10]) rfl (by
        simp only [F_CutR]; rw [if_pos ⟨by omega, by omega, hb⟩]; rfl) (.inr rfl)
      by_cases hbig : (splitBy 10 s).length < 4294967290
      · have hps : parseRE s = parseL hdR fileR refCheckE (splitBy 10 s) 0 [] none := rfl
        generalize hfin : parseRE s = fin at *
        generalize hlsd : splitBy 10 s = ls at *
        have lp := fun ks hk => rparse_L0 G hC hst hfl s ls hmem hbig fin (ks := ks) ls 0 [] none (.arr 2 0 [] true) [.int .i64 0, .int .i64 0, .int .i64 0, .nils, .str [], .str []] [] .junk .junk .junk .junk .junk rfl (fun e => hne (by rw [e]; rfl)) (.closed 0 [] true _ rfl rfl) ⟨by simp, by simp, fun _ _ e => by cases e⟩ hps hk
        have hw : IntKind.i64.wrap ((ls.length : Int) - 1) = ((ls.length - 1 : Nat) : Int) := by rw [show (ls.length : Int) - 1 = ((ls.length - 1 : Nat) : Int) by omega]; exact i64_in _ ⟨by omega, by omega⟩
        have cb : ∀ h, opV G false h (.bsl true 6) (some []) = some (.own h.length 0 0, h ++ [.arr 6 0 [] true]) := fun h => rfl
        simp [Mc.licitref17_Parse, Ks.licitref17_Parse, frInit, upd, op_newnil_sp, op_settle_call, settleL, settle1, c0, hw, cb]
        refine lp _ (fun z dn' o' b0' xs' ex' env hz hf hp hok => ?_)
        have hrn : ∀ (h : Heap) (a : Blk), rowsOf (h ++ [a, .arr 6 0 [] true]) (.own (h.length + 1) 0 0) = some [] := fun h a => by simp [rowsOf]
        have dr0 : doneRows [] = [] := rfl
        have hr2 := hrn (RHeap b0' dn' xs' ex') (.arr 2 0 [] true)
        have hia : ∀ h, iadrAV 1 h (.sl (ls.map rStr.enc)) (.int .i64 (ls.length - 1 : Nat)) = some (.fptr [.str z] 0) := fun h => iadr_sl (row := [.str z]) (by simp [hz, rStr, rOne, eStr]) rfl
        simp only [parseL] at hf
        by_cases hz0 : z = []
        · subst hz0
          simp only [if_true] at hf
          cases o' with
          | some q =>
            have hf' : fin = ([], ((ls.length - 1 : Nat) : Int), 13) := by simpa using hf
            rw [hf']
            simp [hia, cut, op_newnil_sp, hr2, pureQ, Rs.licitref17_Parse, dr0]
          | none =>
            have hr1 : rowsOf (RHeap b0' dn' xs' ex') (.own 2 dn'.length dn'.length) = some (doneRows dn') := rows_own (l := 2) rfl (by simp)
            have hokR : okR dn' = true := by
              simp only [okR, Bool.and_eq_true, decide_eq_true_eq, List.all_eq_true]
              exact ⟨by have := hok.1; unfold big; omega, hok.2.1⟩
            have hst1 : settle1 (RHeap b0' dn' xs' ex') (.own 2 dn'.length dn'.length) = some (RHeap b0' dn' xs' ex') := rfl
            have c1 : ∀ st, opV G st (RHeap b0' dn' xs' ex') (.call Fn.licitref17_Check) (some [.own 2 dn'.length dn'.length]) = some (.int .i64 (refCheckE dn'), RHeap b0' dn' xs' ex') := fun st =>
              op_call hK (us := [.sl (doneRows dn')]) (by simp only [viewL, view, hr1, Option.map_some]) (F1_use (A := eSl rDone) (R := eInt) (f := fun r => if okR r then some (refCheckE r) else none) (x := dn') (r := refCheckE dn') (by simp only [hokR, if_true])) (.inl rfl)
            by_cases h0 : refCheckE dn' = 0
            · have hf' : fin = (dn', -1, 0) := by simpa [h0] using hf
              have e0 : eqB (refCheckE dn') 0 = true := eqB_iff.2 h0
              rw [hf']
              simp [hia, cut, op_settle_call, settleL, hst1, c1, e0, hr1, pureQ, Rs.licitref17_Parse]
            · have hf' : fin = ([], -1, refCheckE dn') := by simpa [h0] using hf
              have e0 : eqB (refCheckE dn') 0 = false := eqB_not.2 h0
              rw [hf']
              simp [hia, cut, op_settle_call, settleL, hst1, c1, e0, op_newnil_sp, hr2, pureQ, Rs.licitref17_Parse, dr0]
        · rw [if_neg hz0] at hf
          have hzb : (z == []) = false := by simpa using hz0
          rw [hf]
          simp [hia, cut, hzb, op_newnil_sp, hr2, pureQ, Rs.licitref17_Parse, dr0]
      · omega
    · cases hF
  · cases hF

/-- The program's and the reference's records of a text are one. -/
theorem parseL_eq : ∀ (ls : List Bs) (n : Nat) (dn : List Done) (o : Option (Hd × List Touch)), parseL hdE fileE checkE ls n dn o = parseL hdR fileR refCheckE ls n dn o
  | [], n, dn, o => rfl
  | [z], n, dn, o => by simp only [parseL, check_eq]
  | l :: l2 :: tl, n, dn, o => by
    obtain ⟨h1, h2⟩ := hd_eq (splitBy 32 l)
    obtain ⟨f1, f2⟩ := file_eq (splitBy 32 l)
    cases o with
    | none =>
      simp only [parseL, ← h1]
      by_cases h : (hdE (splitBy 32 l)).2 = true
      · rw [if_pos h, if_pos h, h2 h, parseL_eq]
      · rw [if_neg h, if_neg h]
    | some q =>
      obtain ⟨hd, rs⟩ := q
      simp only [parseL, ← f1]
      by_cases h : (fileE (splitBy 32 l)).2 = true
      · rw [f2 h, parseL_eq, parseL_eq]
      · have h' : (fileE (splitBy 32 l)).2 = false := by simpa using h
        simp only [h', Bool.false_and, Bool.false_eq_true, if_false]
theorem parse_eq (s : Bs) : parseE s = parseRE s := parseL_eq _ _ _ _

end Go.Proofs.YtmjdgpiofhildaaGreatDoor
