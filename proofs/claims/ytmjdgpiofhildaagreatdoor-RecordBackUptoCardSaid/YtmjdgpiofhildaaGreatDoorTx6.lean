/- The reference: the value of a hexadecimal digit. The reference: the bytes of hexadecimal digits. The reference: the touched file of a line. The reference: parts of a string between the places of a byte. -/
import Derived.Test.YtmjdgpiofhildaaGreatDoorTx4
import Derived.Test.YtmjdgpiofhildaaGreatDoorTx5
namespace Go.Proofs.YtmjdgpiofhildaaGreatDoor
open Go.RowKit Go.IntWalk

def digitN (n : Nat) : Int := if 48 ≤ n ∧ n ≤ 57 then (n : Int) - 48 else if 97 ≤ n ∧ n ≤ 102 then (n : Int) - 87 else -1
set_option maxRecDepth 20000 in
theorem digit_all : ∀ n : Fin 256, hexVal (UInt8.ofNat n.val) = digitN n.val := by decide
theorem digit_eq (c : UInt8) : hexVal c = digitN c.toNat := by
  have := digit_all ⟨c.toNat, c.toNat_lt⟩
  simpa using this

def F_digit : List AV → Option AV
  | [.int .u8 n] => if 0 ≤ n ∧ n < 256 then some (.int .i64 (digitN n.toNat)) else none
  | _ => none

theorem digit_ok {G : Gam} : ∀ args r, F_digit args = some r → wpM G Mc.licitref17_digit (pureQ Rs.licitref17_digit r) [] (frInit Ks.licitref17_digit args) [] := by
  intro args r hF
  unfold F_digit at hF
  split at hF
  · rename_i n0
    split at hF
    · rename_i hn
      injection hF with hF; subst hF
      obtain ⟨n, rfl⟩ : ∃ n : Nat, n0 = n := ⟨n0.toNat, by omega⟩
      have hn2 : n < 256 := by omega
      simp only [Int.toNat_natCast]
      rw [wpM_go]
      have sub : ∀ k : Nat, k ≤ n → IntKind.u8.wrap ((n : Int) - (k : Int)) = ((n - k : Nat) : Int) := fun k hk => by
        rw [show (n : Int) - k = ((n - k : Nat) : Int) by omega]; exact u8_wrap (by omega)
      have w48 := sub 48
      have w97 := sub 97
      have alpha : 97 ≤ n → n ≤ 102 → digitN n = ((n - 97 : Nat) : Int) + 10 := fun a b => by
        unfold digitN; rw [if_neg (by omega), if_pos ⟨a, b⟩]; omega
      have none1 : ¬ (48 ≤ n ∧ n ≤ 57) → ¬ (97 ≤ n ∧ n ≤ 102) → digitN n = -1 := fun a b => by unfold digitN; rw [if_neg a, if_neg b]
      have second : ¬ (48 ≤ n ∧ n ≤ 57) → goM G (.seq (.seq (.reg [
          ⟨none, some 12, false, .mv, [.t 0]⟩,
          ⟨none, some 13, false, .bin .geq, [.t 12, .c (.int .u8 97)]⟩,
          ⟨none, some 14, false, .mv, [.t 13]⟩,
          ⟨some (14, true), some 15, false, .mv, [.t 0]⟩,
          ⟨some (14, true), some 16, false, .bin .leq, [.t 15, .c (.int .u8 102)]⟩,
          ⟨none, some 17, false, .pick, [.t 14, .t 16, .c (.bool false)]⟩])
        (.ite (.t 17)
          (.seq (.reg [
            ⟨none, some 18, false, .mv, [.t 0]⟩,
            ⟨none, some 19, false, .bin .sub, [.t 18, .c (.int .u8 97)]⟩,
            ⟨none, some 20, false, .conv .i64, [.t 19]⟩,
            ⟨none, some 21, false, .bin .add, [.t 20, .c (.int .i64 10)]⟩,
            ⟨none, some 2, true, .mv, [.t 21]⟩])
          .ret)
          .skip))
        (.seq (.reg [
          ⟨none, some 2, true, .mv, [.c (.int .i64 (-1))]⟩])
        .ret)) [] (pureQ Rs.licitref17_digit (.int .i64 (digitN n))) [] [(0, .int .u8 n), (2, .int .i64 0)] [] := fun hno => by
        by_cases h1 : 97 ≤ n
        · have e1 : ltB (n : Int) 97 = false := ltB_not.2 (by omega)
          by_cases h2 : n ≤ 102
          · have e2 : ltB (102 : Int) n = false := ltB_not.2 (by omega)
            have w := w97 h1
            have w1 : IntKind.i64.wrap ((n - 97 : Nat) : Int) = ((n - 97 : Nat) : Int) := i64_in _ ⟨by omega, by omega⟩
            have w2 : IntKind.i64.wrap (((n - 97 : Nat) : Int) + 10) = ((n - 97 : Nat) : Int) + 10 := i64_in _ ⟨by omega, by omega⟩
            rw [alpha h1 h2]
            obtain ⟨q, hq⟩ : ∃ q, q = n - 97 := ⟨_, rfl⟩
            rw [← hq] at w w1 w2 ⊢
            have w' : IntKind.u8.wrap ((n : Int) - 97) = q := w
            simp [e1, e2, w', w1, w2, upd, lkp, pureQ, Rs.licitref17_digit]
          · have e2 : ltB (102 : Int) n = true := ltB_iff.2 (by omega)
            rw [none1 hno (by omega)]
            simp [e1, e2, upd, lkp, pureQ, Rs.licitref17_digit]
        · have e1 : ltB (n : Int) 97 = true := ltB_iff.2 (by omega)
          rw [none1 hno (by omega)]
          simp [e1, upd, lkp, pureQ, Rs.licitref17_digit]
      by_cases h1 : 48 ≤ n
      · have e1 : ltB (n : Int) 48 = false := ltB_not.2 (by omega)
        by_cases h2 : n ≤ 57
        · have e2 : ltB (57 : Int) n = false := ltB_not.2 (by omega)
          have w := w48 h1
          have w1 : IntKind.i64.wrap ((n - 48 : Nat) : Int) = ((n - 48 : Nat) : Int) := i64_in _ ⟨by omega, by omega⟩
          have e : digitN n = ((n - 48 : Nat) : Int) := by unfold digitN; rw [if_pos ⟨h1, h2⟩]; omega
          rw [e]
          obtain ⟨q, hq⟩ : ∃ q, q = n - 48 := ⟨_, rfl⟩
          rw [← hq] at w w1 ⊢
          have w' : IntKind.u8.wrap ((n : Int) - 48) = q := w
          simp [Mc.licitref17_digit, Ks.licitref17_digit, frInit, upd, lkp, e1, e2, w', w1, pureQ, Rs.licitref17_digit]
        · have e2 : ltB (57 : Int) n = true := ltB_iff.2 (by omega)
          have sc := second (by omega)
          rw [go_seq] at sc
          simp only [Mc.licitref17_digit, Ks.licitref17_digit, frInit]
          simp [upd, lkp, e1, e2] at sc ⊢
          exact sc
      · have e1 : ltB (n : Int) 48 = true := ltB_iff.2 (by omega)
        have sc := second (by omega)
        rw [go_seq] at sc
        simp only [Mc.licitref17_digit, Ks.licitref17_digit, frInit]
        simp [upd, lkp, e1] at sc ⊢
        exact sc
    · cases hF
  · cases hF

end Go.Proofs.YtmjdgpiofhildaaGreatDoor

namespace Go.Proofs.YtmjdgpiofhildaaGreatDoor
open Go.RowKit Go.IntWalk

/-- What has been put out so far. -/
def OutI (o : Bs) (x : AV) (h : Heap) : Prop := (o = [] ∧ x = .tsl [] ∧ h = []) ∨ (o ≠ [] ∧ x = .own 0 (o.length - 1) o.length ∧ h = [.arr 1 (o.length - 1) (o.map byteRow) true])
theorem OutI.rows {o : Bs} {x : AV} {h : Heap} (hi : OutI o x h) : rowsOf h x = some (o.map byteRow) := by
  rcases hi with ⟨rfl, rfl, rfl⟩ | ⟨h0, rfl, rfl⟩
  · rfl
  · exact rows_own (h := [.arr 1 (o.length - 1) (o.map byteRow) true]) rfl (by simp)
theorem OutI.trunc {o : Bs} {x : AV} {h : Heap} (hi : OutI o x h) (fr : List (Nat × AV)) (hx : (4, x) ∈ fr) : trunc 0 fr h = h := by
  rcases hi with ⟨rfl, rfl, rfl⟩ | ⟨h0, rfl, rfl⟩
  · unfold Go.Proofs.YtmjdgpiofhildaaGreatDoor.trunc; split <;> rfl
  · have : lowFr 0 fr = false := by
      induction fr with
      | nil => cases hx
      | cons q r ih =>
        obtain ⟨k, v⟩ := q
        rcases List.mem_cons.1 hx with e | e
        · injection e with e1 e2; subst e2; simp [lowFr, low]
        · simp [lowFr, ih e]
    unfold Go.Proofs.YtmjdgpiofhildaaGreatDoor.trunc
    rw [this]; rfl
theorem OutI.next {G : Gam} {o : Bs} {x : AV} {h : Heap} (b : UInt8) (hi : OutI o x h) (hb : o.length < big) :
    ∃ x' h', opV G false h (.app false 1 1) (some [x, .tsl [[.int .u8 (b.toNat : Int)]]]) = some (x', h') ∧ OutI (o ++ [b]) x' h' := by
  rcases hi with ⟨rfl, rfl, rfl⟩ | ⟨h0, rfl, rfl⟩
  · refine ⟨.own 0 0 1, _, ?_, .inr ⟨by simp, rfl, rfl⟩⟩
    rw [opV_eff rfl]
    simp [evalEff, appRows, rowsOf, sizesOk, appAV, byteMax]
  · have hl : 0 < o.length := List.length_pos_iff.2 h0
    have := op_app (G := G) (s := false) (h := [.arr 1 (o.length - 1) (o.map byteRow) true]) (n := 1) (b := 1) (l := 0) (ver := o.length - 1) (k := o.length) (x := .tsl [[.int .u8 (b.toNat : Int)]]) (new := [[.int .u8 (b.toNat : Int)]])
      (rows := o.map byteRow) rfl rfl (by simp) rfl (by simp) (by unfold big at hb; unfold byteMax; simp; omega) (by unfold big at hb; unfold byteMax; simp; omega)
    refine ⟨_, _, this, .inr ⟨by simp, ?_, ?_⟩⟩
    · simp; omega
    · simp; omega

def bytesE (s : Bs) : Bs × Bool := if s.length = 64 then (match unhex s with
  | some d => (d, true)
  | none => ([], false)) else ([], false)
def F_bytes : List AV → Option AV
  | [.str s] => if s.length < big then some (.tup [.str (bytesE s).1, .bool (bytesE s).2]) else none
  | _ => none

theorem bytes_L0 (G : Gam) (hD : G Fn.licitref17_digit = some (.pure F_digit)) (s : Bs) (hs : s.length = 64) (fin : Bs × Bool) {ks : List MK} : ∀ (m : Nat) (rest : Bs) (i : Nat) (o : Bs) (x : AV) (h : Heap) (v6 v7 : AV), rest.length = 2 * m → s.drop i = rest → i + 2 * m = 64 → 2 * o.length = i → OutI o x h →
    (unhex rest = none → fin = ([], false)) →
    (∀ o' env x h, unhex rest = some o' → rowsOf h x = some ((o ++ o').map byteRow) → exM G .normal ks (pureQ Rs.licitref17_bytes (.tup [.str fin.1, .bool fin.2])) env [(0, .str s), (2, .str []), (3, .bool false), (4, x), (5, .int .i64 64), (6, .junk), (7, .junk)] h) →
    headM G [6, 7] Mc.licitref17_bytes_L0 0 (.blk 0 :: ks) (pureQ Rs.licitref17_bytes (.tup [.str fin.1, .bool fin.2])) [(0, .str s), (2, .str []), (3, .bool false), (4, x), (5, .int .i64 i), (6, v6), (7, v7)] h
  | 0, rest, i, o, x, h, v6, v7, hm, hd, hi, ho, hI, hn, hk => by
    have hr0 : rest = [] := List.eq_nil_of_length_eq_zero (by omega)
    subst hr0
    have e : i = 64 := by omega
    subst e
    refine head_go (Mc.licitref17_bytes_L0.eq_1) ?_
    rw [hI.trunc _ (by simp [junkAll])]
    have hr := hI.rows
    simp [lenAV, hs]
    simpa using hk [] _ x h rfl (by simpa using hr)
  | m + 1, rest, i, o, x, h, v6, v7, hm, hd, hi, ho, hI, hn, hk => by
    match rest, hm with
    | [], hm => simp at hm
    | [_], hm => simp at hm; omega
    | a :: b :: r, hm =>
      have hr : r.length = 2 * m := by simp at hm; omega
      obtain ⟨_, hxa, hxd⟩ := drop_cons hd
      obtain ⟨_, hxb, hxd2⟩ := drop_cons hxd
      have hi' : ltB i 64 = true := ltB_iff.2 (by omega)
      obtain ⟨j, hj⟩ : ∃ j, j = i + 1 := ⟨_, rfl⟩
      obtain ⟨t, ht⟩ : ∃ t, t = i + 2 := ⟨_, rfl⟩
      have w1 : IntKind.i64.wrap ((i : Int) + 1) = (j : Int) := by rw [hj]; exact wrap1 (i := i) (by unfold big; omega)
      have w2 : IntKind.i64.wrap ((i : Int) + 2) = (t : Int) := by rw [show (i : Int) + 2 = (t : Int) by omega]; exact i64_in _ ⟨by omega, by omega⟩
      rw [← hj] at hxb
      have ha := hexVal_lt a
      have hb := hexVal_lt b
      have hla := (index_lt hexDigits a).2
      have hlb := (index_lt hexDigits b).2
      have dg : ∀ (c : UInt8) h, opV G true h (.call Fn.licitref17_digit) (some [.int .u8 (c.toNat : Int)]) = some (.int .i64 (hexVal c), h) := fun c h => op_call hD (us := [.int .u8 c.toNat]) rfl (by
        have := c.toNat_lt
        simp only [F_digit]; rw [if_pos ⟨by omega, by omega⟩, digit_eq]; simp) (.inl rfl)
      have c1 : ∀ h, opV G true h .istr (some [.str s, .int .i64 i]) = some (.int .u8 a.toNat, h) := fun h => op_istr hxa
      have c2 := dg a
      have c3 : ∀ h, opV G true h .istr (some [.str s, .int .i64 (j : Int)]) = some (.int .u8 b.toNat, h) := fun h => op_istr hxb
      have c4 := dg b
      simp only [unhex] at hn hk
      refine head_go (Mc.licitref17_bytes_L0.eq_1) ?_
      rw [hI.trunc _ (by simp [junkAll])]
      by_cases h0 : hexVal a < 0
      · have e0 : ltB (hexVal a) 0 = true := ltB_iff.2 h0
        have hf := hn (if_pos (.inl h0))
        subst hf
        simp [hi', lenAV, hs, c1, c2, c3, c4, w1, e0, pureQ, Rs.licitref17_bytes]
      · have e0 : ltB (hexVal a) 0 = false := ltB_not.2 (by omega)
        by_cases h1 : hexVal b < 0
        · have e1 : ltB (hexVal b) 0 = true := ltB_iff.2 h1
          have hf := hn (if_pos (.inr h1))
          subst hf
          simp [hi', lenAV, hs, c1, c2, c3, c4, w1, e0, e1, pureQ, Rs.licitref17_bytes]
        · have e1 : ltB (hexVal b) 0 = false := ltB_not.2 (by omega)
          rw [if_neg (by omega)] at hn
          simp only [if_neg (show ¬ (hexVal a < 0 ∨ hexVal b < 0) by omega)] at hk
          obtain ⟨p, hp⟩ : ∃ p : Nat, hexVal a = p := ⟨(hexVal a).toNat, by omega⟩
          obtain ⟨q, hq⟩ : ∃ q : Nat, hexVal b = q := ⟨(hexVal b).toNat, by omega⟩
          rw [hp, hq] at hn
          simp only [hp, hq, Int.toNat_natCast] at hk hn
          rw [hp] at c2 e0
          rw [hq] at c4 e1
          obtain ⟨y, hy⟩ : ∃ y, y = 16 * p + q := ⟨_, rfl⟩
          have hy2 : y < 256 := by omega
          have wm : IntKind.i64.wrap (16 * (p : Int)) = 16 * (p : Int) := i64_in _ ⟨by omega, by omega⟩
          have wa : IntKind.i64.wrap (16 * (p : Int) + q) = y := by rw [show 16 * (p : Int) + q = (y : Int) by omega]; exact i64_in _ ⟨by omega, by omega⟩
          have wc : IntKind.u8.wrap (y : Int) = y := u8_wrap hy2
          rw [← hy] at hn hk
          obtain ⟨x', h', c5, hI'⟩ := hI.next (G := G) (UInt8.ofNat y) (by unfold big; omega)
          have hyb : ((UInt8.ofNat y).toNat : Int) = y := by rw [UInt8.toNat_ofNat']; omega
          rw [hyb] at c5
          have ih := bytes_L0 G hD s hs fin m r t (o ++ [UInt8.ofNat y]) x' h' (.int .i64 p) (.int .i64 q) hr (by rw [ht, ← hxd2]) (by omega) (by simp; omega) hI' (fun hh => hn (by rw [hh]; rfl)) (fun o' env x h ho' hro => hk (UInt8.ofNat y :: o') env x h (by rw [ho']; rfl) (by rw [hro]; simp))
          simp [hi', lenAV, hs, c1, c2, c3, c4, w1, e0, e1, wm, wa, wc, c5, w2, ownsL, owns, viewL, view, sizesOk, onesOk, oneC, AV.cells]
          exact ih

theorem bytes_ok {G : Gam} (hD : G Fn.licitref17_digit = some (.pure F_digit)) : ∀ args r, F_bytes args = some r → wpM G Mc.licitref17_bytes (pureQ Rs.licitref17_bytes r) [] (frInit Ks.licitref17_bytes args) [] := by
  intro args r hF
  unfold F_bytes at hF
  split at hF
  · rename_i s
    split at hF
    · rename_i hb
      injection hF with hF; subst hF
      rw [wpM_go]
      by_cases h64 : s.length = 64
      · have lp := fun ks hk => bytes_L0 G hD s h64 (bytesE s) (ks := ks) 32 s 0 [] (.tsl []) [] .junk .junk (by omega) rfl (by omega) rfl (.inl ⟨rfl, rfl, rfl⟩) (fun hn => by simp [bytesE, h64, hn]) hk
        have cb : opV G false [] (.bsl false 1) (some []) = some (.tsl [], []) := rfl
        simp [Mc.licitref17_bytes, Ks.licitref17_bytes, frInit, upd, lkp, lenAV, h64, cb, -op_bsl]
        refine lp _ (fun o' env x h ho' hr => ?_)
        rw [List.nil_append] at hr
        have c1 : ∀ st, opV G st h .b2s (some [x]) = some (.str o', h) := fun st => by
          rw [opV_quiet rfl]
          simp [evalPure, hr, bytes_back]
        have en : bytesE s = (o', true) := by simp [bytesE, h64, ho']
        simp [c1, en, pureQ, Rs.licitref17_bytes]
      · have e1 : eqB (s.length : Int) 64 = false := eqB_not.2 (by omega)
        have en : bytesE s = ([], false) := by simp [bytesE, h64]
        simp [Mc.licitref17_bytes, Ks.licitref17_bytes, frInit, upd, lkp, lenAV, e1, en, pureQ, Rs.licitref17_bytes]
    · cases hF
  · cases hF

end Go.Proofs.YtmjdgpiofhildaaGreatDoor

namespace Go.Proofs.YtmjdgpiofhildaaGreatDoor
open Go.RowKit Go.IntWalk

def fileR : List Bs → Touch × Bool
  | [_, p, h] => if p = [] then (⟨[], []⟩, false) else (⟨p, (bytesE h).1⟩, (bytesE h).2)
  | _ => (⟨[], []⟩, false)
def F_fileR : List AV → Option AV := F1 (eSl rStr) (eTup2 (eAgg rTouch) eBool) fun ws => if okW ws then some (fileR ws) else none

theorem fileR_ok {G : Gam} (hD : G Fn.licitref17_bytes = some (.pure F_bytes)) : ∀ args r, F_fileR args = some r → wpM G Mc.licitref17_file (pureQ Rs.licitref17_file r) [] (frInit Ks.licitref17_file args) [] := F1_ok fun ws r h => by
  split at h
  · rename_i ho
    injection h with h; subst h
    simp only [okW, Bool.and_eq_true, decide_eq_true_eq, List.all_eq_true] at ho
    rw [wpM_go]
    show goM G _ _ _ _ (frInit _ [.sl (ws.map rStr.enc)]) _
    have b0 : ∀ st h, opV G st h (.bld [.str [], .str []] []) (some []) = some (.agg [.str [], .str []], h) := fun st h => by rw [opV_quiet rfl]; rfl
    have b1 : ∀ st h (p d : Bs), opV G st h (.bld [.str [], .str []] [(0, 1), (1, 1)]) (some [.str p, .str d]) = some (.agg [.str p, .str d], h) := fun st h p d => by rw [opV_quiet rfl]; rfl
    by_cases h3 : ws.length = 3
    · obtain ⟨a, p, c, rfl⟩ : ∃ a p c, ws = [a, p, c] := by
        match ws, h3 with
        | [a, p, c], _ => exact ⟨a, p, c, rfl⟩
      by_cases hp : p = []
      · subst hp
        simp [Mc.licitref17_file, Ks.licitref17_file, frInit, upd, lkp, lenAV, iadrAV, cut, mkVal, pureQ, Rs.licitref17_file, fileR, eTup2, eAgg, eBool, rTouch, Touch.row, setAt, AV.cells, oneC, b0]
      · have hc := ho.2 c (by simp)
        have c1 : ∀ st h, opV G st h (.call Fn.licitref17_bytes) (some [.str c]) = some (.tup [.str (bytesE c).1, .bool (bytesE c).2], h) := fun st h => op_call hD (us := [.str c]) rfl (by simp [F_bytes, hc]) (.inr rfl)
        have hpb : (p == []) = false := by simpa using hp
        simp [Mc.licitref17_file, Ks.licitref17_file, frInit, upd, lkp, lenAV, iadrAV, cut, mkVal, pureQ, Rs.licitref17_file, fileR, eTup2, eAgg, eBool, rTouch, Touch.row, setAt, AV.cells, oneC, b1, c1, hp, hpb]
    · have e3 : eqB (ws.length : Int) 3 = false := eqB_not.2 (by omega)
      have hf : fileR ws = (⟨[], []⟩, false) := by
        unfold fileR
        split
        · simp at h3
        · rfl
      simp [Mc.licitref17_file, Ks.licitref17_file, frInit, upd, lkp, lenAV, e3, cut, mkVal, pureQ, Rs.licitref17_file, hf, eTup2, eAgg, eBool, rTouch, Touch.row, setAt, AV.cells, oneC, b0]
  · cases h

/-- The program's and the reference's file of a line are one. -/
theorem file_eq (ws : List Bs) : (fileE ws).2 = (fileR ws).2 ∧ ((fileE ws).2 = true → (fileE ws).1 = (fileR ws).1) := by
  unfold fileE fileR
  split
  · rename_i p h
    by_cases hp : p = []
    · simp [hp]
    · simp only [if_neg hp, dparseE, bytesE]
      by_cases h64 : h.length = 64
      · simp only [if_pos h64]
        cases unhex h <;> simp
      · simp [h64]
  · simp

end Go.Proofs.YtmjdgpiofhildaaGreatDoor

namespace Go.Proofs.YtmjdgpiofhildaaGreatDoor
open Go.RowKit Go.IntWalk

/-- What has been put out so far. -/
def OutS (o : List Bs) (x : AV) (h : Heap) : Prop := (o = [] ∧ x = .tsl [] ∧ h = [.arr 1 0 [] true]) ∨ (o ≠ [] ∧ x = .own 1 (o.length - 1) o.length ∧ h = [.arr 1 0 [] true, .arr 1 (o.length - 1) (o.map rStr.enc) true])
theorem OutS.rows {o : List Bs} {x : AV} {h : Heap} (hi : OutS o x h) : view h x = some (.sl (o.map rStr.enc)) := by
  rcases hi with ⟨rfl, rfl, rfl⟩ | ⟨h0, rfl, rfl⟩
  · rfl
  · have := rows_own (h := [.arr 1 0 [] true, .arr 1 (o.length - 1) (o.map rStr.enc) true]) (l := 1) (v := o.length - 1) (n := o.length) rfl (by simp)
    simp only [view, this, Option.map_some]
theorem OutS.trunc {o : List Bs} {x : AV} {h : Heap} (hi : OutS o x h) (fr : List (Nat × AV)) (hx : (5, x) ∈ fr) : trunc 1 fr h = h := by
  rcases hi with ⟨rfl, rfl, rfl⟩ | ⟨h0, rfl, rfl⟩
  · unfold Go.Proofs.YtmjdgpiofhildaaGreatDoor.trunc; split <;> rfl
  · have : lowFr 1 fr = false := by
      induction fr with
      | nil => cases hx
      | cons q r ih =>
        obtain ⟨k, v⟩ := q
        rcases List.mem_cons.1 hx with e | e
        · injection e with e1 e2; subst e2; simp [lowFr, low]
        · simp [lowFr, ih e]
    unfold Go.Proofs.YtmjdgpiofhildaaGreatDoor.trunc
    rw [this]; rfl
theorem OutS.next {G : Gam} {o : List Bs} {x : AV} {h : Heap} (b : Bs) (hi : OutS o x h) (hb : o.length < 4294967297) :
    ∃ x' h', opV G false h (.app false 1 16) (some [x, .tsl [[.str b]]]) = some (x', h') ∧ OutS (o ++ [b]) x' h' := by
  rcases hi with ⟨rfl, rfl, rfl⟩ | ⟨h0, rfl, rfl⟩
  · refine ⟨.own 1 0 1, _, ?_, .inr ⟨by simp, rfl, rfl⟩⟩
    rw [opV_eff rfl]
    simp [evalEff, appRows, rowsOf, sizesOk, appAV, byteMax]
  · have hl : 0 < o.length := List.length_pos_iff.2 h0
    have := op_app (G := G) (s := false) (h := [.arr 1 0 [] true, .arr 1 (o.length - 1) (o.map rStr.enc) true]) (n := 1) (b := 16) (l := 1) (ver := o.length - 1) (k := o.length) (x := .tsl [[.str b]]) (new := [[.str b]])
      (rows := o.map rStr.enc) rfl rfl (by simp) rfl (by simp) (by unfold byteMax; simp; omega) (by unfold byteMax; simp; omega)
    refine ⟨_, _, this, .inr ⟨by simp, ?_, ?_⟩⟩
    · simp; omega
    · simp
      omega

def F_CutR : List AV → Option AV
  | [.str s, .int .u8 c] => if 0 ≤ c ∧ c < 256 ∧ s.length < 4294967281 then some (.sl ((splitBy (UInt8.ofNat c.toNat) s).map rStr.enc)) else none
  | _ => none

theorem cut_L0 (G : Gam) (s : Bs) (c : UInt8) (hs : s.length < 4294967281) (fin : List Bs) {ks : List MK} : ∀ (rest : Bs) (f i : Nat) (o : List Bs) (x : AV) (h : Heap), s.drop i = rest → f ≤ i → i ≤ s.length → o.length ≤ f → OutS o x h → c ∉ (s.take i).drop f →
    fin = o ++ splitBy c ((s.take i).drop f ++ rest) →
    (∀ env x h v6 v7, OutS fin x h → exM G .normal ks (pureQ Rs.licitref16_Cut (.sl (fin.map rStr.enc))) env [(0, .str s), (1, .int .u8 c.toNat), (4, .own 0 0 0), (5, x), (6, v6), (7, v7)] h) →
    headM G [] Mc.licitref16_Cut_L0 1 (.blk 0 :: ks) (pureQ Rs.licitref16_Cut (.sl (fin.map rStr.enc))) [(0, .str s), (1, .int .u8 c.toNat), (4, .own 0 0 0), (5, x), (6, .int .i64 f), (7, .int .i64 i)] h
  | [], f, i, o, x, h, hd, hfi, hil, hof, hI, hc, hr, hk => by
    have hi2 := drop_nil hd
    have e : i = s.length := by omega
    subst e
    rw [List.append_nil, splitBy_none c _ hc] at hr
    rw [List.take_length] at hr hc
    have hle : ltB (s.length : Int) (s.length : Int) = false := ltB_not.2 (by omega)
    obtain ⟨j, hj⟩ : ∃ j, j = s.length + 1 := ⟨_, rfl⟩
    have hle2 : ltB (s.length : Int) (j : Int) = true := ltB_iff.2 (by omega)
    have hw : IntKind.i64.wrap ((s.length : Int) + 1) = (j : Int) := by rw [hj]; exact wrap1 (by unfold big; omega)
    have he : eqB (s.length : Int) (s.length : Int) = true := eqB_iff.2 rfl
    have sl : ∀ st h, opV G st h (.slc none true true false) (some [.str s, .int .i64 f, .int .i64 s.length]) = some (.str (s.drop f), h) := fun st h => by
      have := op_slc_str2 (G := G) (st := st) (h := h) (k := .i64) (k' := .i64) hfi (Nat.le_refl s.length)
      rwa [List.take_length] at this
    obtain ⟨x', h', a1, a2⟩ := hI.next (G := G) (s.drop f) (by omega)
    rw [← hr] at a2
    refine head_go (Mc.licitref16_Cut_L0.eq_1) ?_
    rw [hI.trunc _ (by simp [junkAll])]
    simp [lenAV, hle, he, sl, ownsL, owns, viewL, view, sizesOk, onesOk, oneC, AV.cells, a1, hw]
    refine head_go (Mc.licitref16_Cut_L0.eq_1) ?_
    rw [a2.trunc _ (by simp [junkAll])]
    simp [lenAV, hle2]
    exact hk _ x' h' _ _ a2
  | b :: r, f, i, o, x, h, hd, hfi, hil, hof, hI, hc, hr, hk => by
    obtain ⟨hlt, hx, hxd⟩ := drop_cons hd
    have hle : ltB (s.length : Int) (i : Int) = false := ltB_not.2 (by omega)
    have he : eqB (i : Int) (s.length : Int) = false := eqB_not.2 (by omega)
    have is : ∀ st h, opV G st h .istr (some [.str s, .int .i64 i]) = some (.int .u8 b.toNat, h) := fun st h => op_istr hx
    have hw : IntKind.i64.wrap ((i : Int) + 1) = ((i + 1 : Nat) : Int) := wrap1 (by unfold big; omega)
    have htk : s.take (i + 1) = s.take i ++ [b] := by rw [List.take_add_one, hx]; rfl
    have hlen : (s.take i).length = i := by simp; omega
    refine head_go (Mc.licitref16_Cut_L0.eq_1) ?_
    rw [hI.trunc _ (by simp [junkAll])]
    by_cases hbc : b = c
    · subst hbc
      have hb : eqB (b.toNat : Int) (b.toNat : Int) = true := eqB_iff.2 rfl
      rw [splitBy_mid b _ _ hc] at hr
      have sl : ∀ st h, opV G st h (.slc none true true false) (some [.str s, .int .i64 f, .int .i64 i]) = some (.str ((s.take i).drop f), h) := fun st h => op_slc_str2 hfi hil
      obtain ⟨x', h', a1, a2⟩ := hI.next (G := G) ((s.take i).drop f) (by omega)
      have hdr : (s.take (i + 1)).drop (i + 1) = [] := by apply List.drop_of_length_le; simp; omega
      have ih := cut_L0 G s b hs fin (ks := ks) r (i + 1) (i + 1) (o ++ [(s.take i).drop f]) x' h' hxd (Nat.le_refl _) (by omega) (by simp; omega) a2 (by rw [hdr]; simp) (by rw [hr, hdr]; simp) hk
      simp [lenAV, hle, he, is, hb, sl, ownsL, owns, viewL, view, sizesOk, onesOk, oneC, AV.cells, a1, hw]
      simpa using ih
    · have hb : eqB (b.toNat : Int) (c.toNat : Int) = false := eqB_not.2 (fun e => hbc (by
        have : b.toNat = c.toNat := by omega
        exact UInt8.toNat_inj.1 this))
      have hdr : (s.take (i + 1)).drop f = (s.take i).drop f ++ [b] := by rw [htk, List.drop_append_of_le_length (by omega)]
      have ih := cut_L0 G s c hs fin (ks := ks) r f (i + 1) o x h hxd (by omega) (by omega) hof hI (by rw [hdr]; intro hm; rcases List.mem_append.1 hm with hm | hm
                                                                                                       · exact hc hm
                                                                                                       · simp at hm; exact hbc hm.symm) (by rw [hr, hdr]; simp) hk
      simp [lenAV, hle, he, is, hb, hw]
      simpa using ih

theorem CutR_ok {G : Gam} : ∀ args r, F_CutR args = some r → wpM G Mc.licitref16_Cut (pureQ Rs.licitref16_Cut r) [] (frInit Ks.licitref16_Cut args) [] := by
  intro args r hF
  unfold F_CutR at hF
  split at hF
  · rename_i s z
    split at hF
    · rename_i hb
      injection hF with hF; subst hF
      obtain ⟨h0, h1, h2⟩ := hb
      obtain ⟨c, hc⟩ : ∃ c : UInt8, z = (c.toNat : Int) := ⟨UInt8.ofNat z.toNat, by rw [UInt8.toNat_ofNat']; omega⟩
      subst hc
      have hcc : UInt8.ofNat (c.toNat : Int).toNat = c := by simp
      rw [hcc]
      rw [wpM_go]
      have lp := fun ks hk => cut_L0 G s c h2 (splitBy c s) (ks := ks) s 0 0 [] (.tsl []) [.arr 1 0 [] true] rfl (Nat.le_refl _) (Nat.zero_le _) (Nat.le_refl _) (.inl ⟨rfl, rfl, rfl⟩) (by simp) (by simp) hk
      have cb : opV G false [.arr 1 0 [] true] (.bsl false 1) (some []) = some (.tsl [], [.arr 1 0 [] true]) := rfl
      simp [Mc.licitref16_Cut, Ks.licitref16_Cut, frInit, upd, cb, -op_bsl]
      refine lp _ (fun env x h v6 v7 ho => ?_)
      have hv := ho.rows
      simp [hv, pureQ, Rs.licitref16_Cut]
    · cases hF
  · cases hF

end Go.Proofs.YtmjdgpiofhildaaGreatDoor
