/- record.Parse's parts: numbers. record.Parse's parts: the file of a line. digest.Parse walked. record.Parse's parts: the step of a line. record.Parse: the steps as they are put together, in memory. -/
import Derived.Test.YtmjdgpiofhildaaGreatDoorTx3
namespace Go.Proofs.YtmjdgpiofhildaaGreatDoor
open Go.RowKit Go.IntWalk

/-- A number with one to four digits and without superfluous zeros, or -1. -/
def numE (s : Bs) : Int := match Lib.atoiAll s with
  | .ok v => if 4 < s.length then -1 else if Lib.itoa v = s then v else -1
  | _ => -1
def F_number : List AV → Option AV
  | [.str s] => if s.length ≤ 281474976710656 then some (.int .i64 (numE s)) else none
  | _ => none

theorem atoi_in {s : Bs} {v : Int} (h : Lib.atoiAll s = .ok v) : -9223372036854775808 ≤ v ∧ v ≤ 9223372036854775807 := by
  unfold Lib.atoiAll at h
  split at h
  · cases h
  · simp only at h
    split at h
    · cases h
    · cases h
    · split at h
      · cases h
      · split at h
        · cases h
        · injection h with h
          split at h <;> omega

theorem number_ok {G : Gam} (hA : G Fn.strconv_Atoi = some (.pure (F_Atoi 190))) (hI : G Fn.strconv_Itoa = some (.pure F_Itoa)) : ∀ args r, F_number args = some r → wpM G Mc.record_number (pureQ Rs.record_number r) [] (frInit Ks.record_number args) [] := by
  intro args r hF
  unfold F_number at hF
  split at hF
  · rename_i s
    split at hF
    · rename_i hb
      injection hF with hF; subst hF
      have c1 : ∀ st h, opV G st h (.call Fn.strconv_Atoi) (some [.str s]) = some (atoiAV 190 s, h) := fun st h => op_call hA (us := [.str s]) rfl (by simp [F_Atoi, hb]) (.inr rfl)
      have n1 : ∀ st h, opV G st h (.isnili true) (some [.nili]) = some (.bool false, h) := fun st h => by rw [opV_quiet rfl]; rfl
      have n2 : ∀ st h T, opV G st h (.isnili true) (some [.iface T .junk]) = some (.bool true, h) := fun st h T => by rw [opV_quiet rfl]; rfl
      rw [wpM_go]
      rcases numEnd_cases (Lib.atoiAll s) with ⟨v, hat⟩ | hat | hat
      · have hv := atoi_in hat
        have e1 : atoiAV 190 s = .tup [.int .i64 v, .nili] := by unfold atoiAV; rw [hat]
        rw [e1] at c1
        have c2 : ∀ st h, opV G st h (.call Fn.strconv_Itoa) (some [.int .i64 v]) = some (.str (Lib.itoa v), h) := fun st h => op_call hI (us := [.int .i64 v]) rfl (by simp [F_Itoa, hv.1, hv.2]) (.inl rfl)
        by_cases h4 : 4 < s.length
        · have e4 : ltB (4 : Int) s.length = true := ltB_iff.2 (by omega)
          have en : numE s = -1 := by simp [numE, hat, h4]
          simp [Mc.record_number, Ks.record_number, frInit, upd, lkp, c1, n1, lenAV, e4, pureQ, Rs.record_number, en]
        · have e4 : ltB (4 : Int) s.length = false := ltB_not.2 (by omega)
          by_cases h5 : Lib.itoa v = s
          · have en : numE s = v := by simp [numE, hat, h4, h5]
            simp [Mc.record_number, Ks.record_number, frInit, upd, lkp, c1, n1, lenAV, e4, c2, h5, pureQ, Rs.record_number, en]
          · have en : numE s = -1 := by simp [numE, hat, h4, h5]
            have h6 : (Lib.itoa v == s) = false := by simpa using h5
            simp [Mc.record_number, Ks.record_number, frInit, upd, lkp, c1, n1, lenAV, e4, c2, h6, pureQ, Rs.record_number, en]
      · have e1 : atoiAV 190 s = .tup [.int .i64 (Lib.atoiSat s), .iface 190 .junk] := by unfold atoiAV; rw [hat]
        rw [e1] at c1
        have en : numE s = -1 := by simp [numE, hat]
        simp [Mc.record_number, Ks.record_number, frInit, upd, lkp, c1, n2, lenAV, pureQ, Rs.record_number, en]
      · have e1 : atoiAV 190 s = .tup [.int .i64 0, .iface 190 .junk] := by unfold atoiAV; rw [hat]; rfl
        rw [e1] at c1
        have en : numE s = -1 := by unfold numE; rw [hat]; rfl
        simp [Mc.record_number, Ks.record_number, frInit, upd, lkp, c1, n2, lenAV, pureQ, Rs.record_number, en]
    · cases hF
  · cases hF

end Go.Proofs.YtmjdgpiofhildaaGreatDoor

namespace Go.Proofs.YtmjdgpiofhildaaGreatDoor
open Go.RowKit Go.IntWalk

def hexVal (b : UInt8) : Int := Lib.indexByte hexDigits b
/-- The bytes of hexadecimal digits. -/
def unhex : Bs → Option Bs
  | [] => some []
  | [_] => none
  | a :: b :: r => if hexVal a < 0 ∨ hexVal b < 0 then none else (unhex r).map (UInt8.ofNat (16 * (hexVal a).toNat + (hexVal b).toNat) :: ·)
def dparseE (s : Bs) : Bs × Int := if s.length = 64 then (match unhex s with
  | some d => (d, 0)
  | none => ([], 4)) else ([], 4)
def F_dParse : List AV → Option AV
  | [.str s] => if s.length < big then some (.tup [.str (dparseE s).1, .int .i64 (dparseE s).2]) else none
  | _ => none

def fileE : List Bs → Touch × Bool
  | [_, p, h] => if p = [] then (⟨[], []⟩, false) else (⟨p, (dparseE h).1⟩, decide ((dparseE h).2 = 0))
  | _ => (⟨[], []⟩, false)
def okW (ws : List Bs) : Bool := decide (ws.length ≤ big) && ws.all fun w => decide (w.length < big)
def F_file : List AV → Option AV := F1 (eSl rStr) (eTup2 (eAgg rTouch) eBool) fun ws => if okW ws then some (fileE ws) else none

theorem file_ok {G : Gam} (hD : G Fn.digest_Parse = some (.pure F_dParse)) : ∀ args r, F_file args = some r → wpM G Mc.record_file (pureQ Rs.record_file r) [] (frInit Ks.record_file args) [] := F1_ok fun ws r h => by
  split at h
  · rename_i ho
    injection h with h; subst h
    simp only [okW, Bool.and_eq_true, decide_eq_true_eq, List.all_eq_true] at ho
    rw [wpM_go]
    show goM G _ _ _ _ (frInit _ [.sl (ws.map rStr.enc)]) _
    have b0 : ∀ st h, opV G st h (.bld [.str [], .str []] []) (some []) = some (.agg [.str [], .str []], h) := fun st h => by rw [opV_quiet rfl]; rfl
    have b1 : ∀ st h (p d : Bs), opV G st h (.bld [.str [], .str []] [(0, 1), (1, 1)]) (some [.str p, .str d]) = some (.agg [.str p, .str d], h) := fun st h p d => by rw [opV_quiet rfl]; rfl
    by_cases h3 : ws.length = 3
    · obtain ⟨a, p, c, rfl⟩ : ∃ a p c, ws = [a, p, c] := by
        match ws, h3 with
        | [a, p, c], _ => exact ⟨a, p, c, rfl⟩
      have e3 : eqB (3 : Int) 3 = true := by simp [eqB]
      by_cases hp : p = []
      · subst hp
        simp [Mc.record_file, Ks.record_file, frInit, upd, lkp, lenAV, iadrAV, cut, mkVal, pureQ, Rs.record_file, fileE, eTup2, eAgg, eBool, rTouch, Touch.row, setAt, AV.cells, oneC, b0]
      · have hc := ho.2 c (by simp)
        have c1 : ∀ st h, opV G st h (.call Fn.digest_Parse) (some [.str c]) = some (.tup [.str (dparseE c).1, .int .i64 (dparseE c).2], h) := fun st h => op_call hD (us := [.str c]) rfl (by simp [F_dParse, hc]) (.inr rfl)
        have hpb : (p == []) = false := by simpa using hp
        by_cases h0 : (dparseE c).2 = 0
        · have e0 : eqB (dparseE c).2 0 = true := eqB_iff.2 h0
          simp [Mc.record_file, Ks.record_file, frInit, upd, lkp, lenAV, iadrAV, cut, mkVal, pureQ, Rs.record_file, fileE, eTup2, eAgg, eBool, rTouch, Touch.row, setAt, AV.cells, oneC, b1, c1, e0, hp, hpb, h0]
        · have e0 : eqB (dparseE c).2 0 = false := eqB_not.2 h0
          simp [Mc.record_file, Ks.record_file, frInit, upd, lkp, lenAV, iadrAV, cut, mkVal, pureQ, Rs.record_file, fileE, eTup2, eAgg, eBool, rTouch, Touch.row, setAt, AV.cells, oneC, b1, c1, e0, hp, hpb, h0]
    · have e3 : eqB (ws.length : Int) 3 = false := eqB_not.2 (by omega)
      have hf : fileE ws = (⟨[], []⟩, false) := by
        unfold fileE
        split
        · simp at h3
        · rfl
      simp [Mc.record_file, Ks.record_file, frInit, upd, lkp, lenAV, e3, cut, mkVal, pureQ, Rs.record_file, hf, eTup2, eAgg, eBool, rTouch, Touch.row, setAt, AV.cells, oneC, b0]
  · cases h

end Go.Proofs.YtmjdgpiofhildaaGreatDoor

namespace Go.Proofs.YtmjdgpiofhildaaGreatDoor
open Go.RowKit Go.IntWalk

def stepB (v : UInt8) (k : Nat) : UInt8 := UInt8.ofNat ((v.toNat % 16) * 16 + k)
def dpR : Nat → Bs → Bs → Option Bs
  | _, [], o => some o
  | i, c :: r, o => if hexVal c < 0 then none else dpR (i + 1) r (o.set (i / 2) (stepB (o.getD (i / 2) 0) (hexVal c).toNat))

theorem index_lt (l : Bs) (c : UInt8) : Lib.indexByte l c < l.length ∧ -1 ≤ Lib.indexByte l c := by
  induction l with
  | nil => simp [Lib.indexByte]
  | cons b l ih =>
    simp only [Lib.indexByte, List.length_cons]
    split
    · omega
    · split
      · omega
      · omega
theorem hexVal_lt (c : UInt8) : hexVal c < 16 := (index_lt hexDigits c).1

theorem shl16 (v : UInt8) : binAV .shl (.int .u8 (v.toNat : Int)) (.int .u64 4) = some (.int .u8 (((v.toNat % 16) * 16 : Nat) : Int)) := by
  have hv := v.toNat_lt
  have e2 : Nat.min (4 : Int).toNat IntKind.u8.bits = 4 := rfl
  have e3 : IntKind.u8.wrap ((v.toNat : Int) * 2 ^ 4) = (((v.toNat % 16) * 16 : Nat) : Int) := by
    simp [IntKind.wrap, IntKind.signed, IntKind.bits]
    omega
  simp only [binAV, reduceCtorEq, true_or, or_false, if_true, e2, e3]
  simp
theorem or16 (q k : Nat) (hq : q < 16) (hk : k < 16) : binAV .or (.int .u8 ((q * 16 : Nat) : Int)) (.int .u8 (k : Int)) = some (.int .u8 ((q * 16 + k : Nat) : Int)) := by
  have e : (BitVec.ofInt 8 ((q * 16 : Nat) : Int) ||| BitVec.ofInt 8 (k : Int)).toNat = q * 16 + k := by
    rw [BitVec.toNat_or]
    have e1 : (BitVec.ofInt 8 ((q * 16 : Nat) : Int)).toNat = q * 16 := by rw [BitVec.toNat_ofInt]; omega
    have e2 : (BitVec.ofInt 8 (k : Int)).toNat = k := by rw [BitVec.toNat_ofInt]; omega
    rw [e1, e2]
    have := Nat.two_pow_add_eq_or_of_lt (i := 4) (b := k) (by omega) q
    rw [show 2 ^ 4 = 16 from rfl] at this
    rw [Nat.mul_comm q 16, ← this]
  have e3 : intBin .or .u8 ((q * 16 : Nat) : Int) (k : Int) = some (.int .u8 (IntKind.u8.wrap ((BitVec.ofInt 8 ((q * 16 : Nat) : Int) ||| BitVec.ofInt 8 (k : Int)).toNat : Int))) := rfl
  simp only [binAV, reduceCtorEq, or_self, if_false, if_true]
  rw [e3, e, u8_wrap (by omega)]
theorem quo2 {i : Nat} (hi : i < 1000) : binAV .quo (.int .i64 i) (.int .i64 2) = some (.int .i64 ((i / 2 : Nat) : Int)) := by
  have e : ((i : Int).tdiv 2) = ((i / 2 : Nat) : Int) := by rw [Int.tdiv_eq_ediv_of_nonneg (by omega)]; omega
  have e2 : IntKind.i64.wrap ((i / 2 : Nat) : Int) = ((i / 2 : Nat) : Int) := i64_small (by omega) (by omega)
  simp only [binAV, intBin]
  simp only [reduceCtorEq, or_self, if_false, if_true, e, e2]
  simp

theorem dp_L0 (G : Gam) (hI : G Fn.strings_IndexByte = some (.pure F_IndexByte)) (s : Bs) (hs : s.length = 64) (fin : Bs × Int) {ks : List MK} : ∀ (rest : Bs) (i : Nat) (o : Bs) (v6 : AV), s.drop i = rest → i ≤ s.length → o.length = 32 →
    (dpR i rest o = none → fin = ([], 4)) →
    (∀ o' env, dpR i rest o = some o' → exM G .normal ks (pureQ Rs.digest_Parse (.tup [.str fin.1, .int .i64 fin.2])) env [(0, .str s), (2, .str []), (3, .int .i64 0), (4, .own 0 0 32), (5, .int .i64 64), (6, .junk)] [.arr 1 0 (o'.map byteRow) true]) →
    headM G [6] Mc.digest_Parse_L0 1 (.blk 0 :: ks) (pureQ Rs.digest_Parse (.tup [.str fin.1, .int .i64 fin.2])) [(0, .str s), (2, .str []), (3, .int .i64 0), (4, .own 0 0 32), (5, .int .i64 i), (6, v6)] [.arr 1 0 (o.map byteRow) true]
  | [], i, o, v6, hd, hi, ho, hn, hk => by
    have hi2 := drop_nil hd
    have e : i = 64 := by omega
    subst e
    refine head_go (Mc.digest_Parse_L0.eq_1) ?_
    rw [trunc_len (n := 1) rfl]
    have e1 : ltB (64 : Int) 64 = false := by simp
    simp [lenAV, hs]
    simpa using hk o _ rfl
  | c :: rest, i, o, v6, hd, hi, ho, hn, hk => by
    obtain ⟨hi2, hx, hxd⟩ := drop_cons hd
    have hi' : ltB i s.length = true := ltB_iff.2 (by omega)
    have hw := wrap1 (i := i) (by unfold big; omega)
    have hlt := hexVal_lt c
    have c1 : ∀ h, opV G false h .istr (some [.str s, .int .i64 i]) = some (.int .u8 c.toNat, h) := fun h => op_istr hx
    have c2 : ∀ h, opV G false h (.call Fn.strings_IndexByte) (some [.str [48, 49, 50, 51, 52, 53, 54, 55, 56, 57, 97, 98, 99, 100, 101, 102], .int .u8 c.toNat]) = some (.int .i64 (hexVal c), h) := fun h => op_call hI (us := [.str hexDigits, .int .u8 c.toNat]) rfl (by
      simp [F_IndexByte, hexVal]) (.inl rfl)
    simp only [dpR] at hn hk
    refine head_go (Mc.digest_Parse_L0.eq_1) ?_
    rw [trunc_len (n := 1) rfl]
    by_cases h0 : hexVal c < 0
    · have e0 : ltB (hexVal c) 0 = true := ltB_iff.2 h0
      have hf := hn (if_pos h0)
      subst hf
      simp [hi', lenAV, c1, c2, e0, pureQ, Rs.digest_Parse]
    · have e0 : ltB (hexVal c) 0 = false := ltB_not.2 (by omega)
      rw [if_neg h0] at hn
      simp only [if_neg h0] at hk
      obtain ⟨k, hk2⟩ : ∃ k : Nat, hexVal c = k := ⟨(hexVal c).toNat, by omega⟩
      have hk16 : k < 16 := by omega
      rw [hk2, Int.toNat_natCast] at hn hk
      rw [hk2] at c2 e0
      have hj : i / 2 < o.length := by omega
      obtain ⟨v, hv⟩ : ∃ v, v = o.getD (i / 2) 0 := ⟨_, rfl⟩
      have hov : o[i / 2]? = some v := by rw [hv, List.getD_eq_getElem?_getD]; simp [hj]
      rw [← hv] at hn hk
      have q2 := quo2 (i := i) (by omega)
      have s1 := shl16 v
      have s2 := or16 (v.toNat % 16) k (by omega) hk16
      have s3 : IntKind.u8.wrap (k : Int) = k := u8_wrap (by omega)
      obtain ⟨j, hjj⟩ : ∃ j, j = i / 2 := ⟨_, rfl⟩
      rw [← hjj] at q2 hov hn hk hj
      obtain ⟨x, hxx⟩ : ∃ x, x = (v.toNat % 16) * 16 := ⟨_, rfl⟩
      rw [← hxx] at s1 s2
      obtain ⟨y, hyy⟩ : ∃ y, y = x + k := ⟨_, rfl⟩
      rw [← hyy] at s2
      have hy : y < 256 := by omega
      have hrow : (o.map byteRow)[j]? = some (byteRow v) := by simp [hov]
      have ia : iadrAV 1 [Blk.arr 1 0 (o.map byteRow) true] (.own 0 0 32) (.int .i64 j) = some (.eptr 0 0 j 0) := iadr_own (h := [Blk.arr 1 0 (o.map byteRow) true]) rfl (by simp [ho]) hrow rfl
      have ld : loadAV 1 false [Blk.arr 1 0 (o.map byteRow) true] (.eptr 0 0 j 0) = some (.int .u8 v.toNat) := by
        rw [ld_eptr (h := [Blk.arr 1 0 (o.map byteRow) true]) rfl hrow]; rfl
      have st : opV G false [Blk.arr 1 0 (o.map byteRow) true] (.st 1) (some [.eptr 0 0 j 0, .int .u8 y]) = some (.junk, [Blk.arr 1 0 ((o.set j (UInt8.ofNat y)).map byteRow) true]) := by
        have st0 := op_st_eptr (G := G) (s := false) (h := [Blk.arr 1 0 (o.map byteRow) true]) (l := 0) (v := 0) (sz := 1) (n := 1) (off := 0) (x := .int .u8 y) rfl hrow rfl (by omega) rfl (by simp [byteRow]) rfl rfl
        rw [st0]
        have : ((UInt8.ofNat y).toNat : Int) = y := by rw [UInt8.toNat_ofNat']; omega
        have e4 : (o.map byteRow).set j (setAt (byteRow v) 0 (AV.int IntKind.u8 (y : Int)).cells) = (o.set j (UInt8.ofNat y)).map byteRow := by
          rw [List.map_set]
          simp only [byteRow, this]
          rfl
        rw [e4]
        rfl
      have hsb : stepB v k = UInt8.ofNat y := by rw [hyy, hxx]; rfl
      rw [hsb] at hn hk
      have ih := dp_L0 G hI s hs fin rest (i + 1) (o.set j (UInt8.ofNat y)) .junk (by rw [← hxd]) (by omega) (by simpa using ho) hn hk
      simp [hi', lenAV, c1, c2, e0, q2, ia, ld, s1, s2, s3, st, hw, -op_st, -loadAV]
      refine head_of ?_
      rw [trunc_len (n := 1) rfl]
      simpa [junkAll] using ih

theorem dpR_eq : ∀ (m : Nat) (rest pre : Bs), rest.length = 2 * m → dpR (2 * pre.length) rest (pre ++ List.replicate m 0) = (unhex rest).map (pre ++ ·)
  | 0, rest, pre, h => by
    have : rest = [] := List.eq_nil_of_length_eq_zero (by omega)
    subst this
    simp [dpR, unhex]
  | m + 1, rest, pre, h => by
    match rest, h with
    | [], h => simp at h
    | [_], h => simp at h; omega
    | a :: b :: r, h =>
      have hr : r.length = 2 * m := by simp at h; omega
      have d1 : 2 * pre.length / 2 = pre.length := by omega
      have d2 : (2 * pre.length + 1) / 2 = pre.length := by omega
      simp only [dpR, unhex, d1, d2]
      by_cases h1 : hexVal a < 0
      · simp [h1]
      · by_cases h2 : hexVal b < 0
        · simp [h1, h2]
        · have ha := hexVal_lt a
          have hb := hexVal_lt b
          rw [if_neg h1, if_neg h2, if_neg (by omega)]
          have e0 : (pre ++ List.replicate (m + 1) (0 : UInt8)).getD pre.length 0 = 0 := by
            rw [List.getD_eq_getElem?_getD, List.getElem?_append_right (Nat.le_refl _)]; simp
          have e1 : ∀ x : UInt8, (pre ++ List.replicate (m + 1) (0 : UInt8)).set pre.length x = (pre ++ [x]) ++ List.replicate m 0 := fun x => by
            rw [List.set_append_right _ _ (Nat.le_refl _), Nat.sub_self, List.replicate_succ]; simp
          rw [e0, e1]
          have e2 : ∀ x : UInt8, (pre ++ [x] ++ List.replicate m (0 : UInt8)).getD pre.length 0 = x := fun x => by
            rw [List.getD_eq_getElem?_getD, List.append_assoc, List.getElem?_append_right (Nat.le_refl _)]; simp
          have e3 : ∀ x y : UInt8, (pre ++ [x] ++ List.replicate m (0 : UInt8)).set pre.length y = (pre ++ [y]) ++ List.replicate m 0 := fun x y => by
            rw [List.append_assoc, List.set_append_right _ _ (Nat.le_refl _), Nat.sub_self]; simp
          rw [e2, e3]
          have ih := dpR_eq m r (pre ++ [stepB (stepB 0 (hexVal a).toNat) (hexVal b).toNat]) hr
          rw [List.length_append, List.length_singleton, show 2 * (pre.length + 1) = 2 * pre.length + 1 + 1 by omega] at ih
          rw [ih]
          have e4 : stepB (stepB 0 (hexVal a).toNat) (hexVal b).toNat = UInt8.ofNat (16 * (hexVal a).toNat + (hexVal b).toNat) := by
            have : (stepB 0 (hexVal a).toNat).toNat = (hexVal a).toNat := by
              simp only [stepB]
              rw [UInt8.toNat_ofNat']
              simp
              omega
            unfold stepB at this ⊢
            rw [this]
            congr 1
            omega
          rw [e4]
          cases unhex r <;> simp

theorem unhex_len : ∀ (m : Nat) (s o : Bs), s.length = 2 * m → unhex s = some o → o.length = m
  | 0, s, o, h, ho => by
    have : s = [] := List.eq_nil_of_length_eq_zero (by omega)
    subst this; simp [unhex] at ho; subst ho; rfl
  | m + 1, s, o, h, ho => by
    match s, h with
    | [], h => simp at h
    | [_], h => simp at h; omega
    | a :: b :: r, h =>
      simp only [unhex] at ho
      split at ho
      · cases ho
      · obtain ⟨o2, h1, rfl⟩ := Option.map_eq_some_iff.1 ho
        have := unhex_len m r o2 (by simp at h; omega) h1
        simp [this]

theorem dParse_ok {G : Gam} (hI : G Fn.strings_IndexByte = some (.pure F_IndexByte)) : ∀ args r, F_dParse args = some r → wpM G Mc.digest_Parse (pureQ Rs.digest_Parse r) [] (frInit Ks.digest_Parse args) [] := by
  intro args r hF
  unfold F_dParse at hF
  split at hF
  · rename_i s
    split at hF
    · rename_i hb
      injection hF with hF; subst hF
      rw [wpM_go]
      by_cases h64 : s.length = 64
      · have e1 : eqB (64 : Int) 64 = true := by simp
        have hd := dpR_eq 32 s [] (by omega)
        simp only [List.length_nil, Nat.mul_zero, List.nil_append] at hd
        have hd' : dpR 0 s (List.replicate 32 0) = unhex s := by rw [hd]; cases unhex s <;> rfl
        have lp := fun ks hk => dp_L0 G hI s h64 (dparseE s) (ks := ks) s 0 (List.replicate 32 0) .junk rfl (by omega) (by simp) (fun hn => by
          rw [hd'] at hn; simp [dparseE, h64, hn]) hk
        have hrep : (List.replicate 32 (0 : UInt8)).map byteRow = List.replicate 32 [AV.int .u8 0] := by simp [byteRow]
        rw [hrep] at lp
        have mk := op_mksl (G := G) (s := false) (h := []) (zero := [.int .u8 0]) (bytes := 1) (n := 32) (k := .i64) (k' := .i64) (by unfold byteMax; omega) (by unfold byteMax; omega)
        have mk' : opV G false [] (.mksl [.int .u8 0] 1) (some [.int .i64 32, .int .i64 32]) = some (.own 0 0 32, [.arr 1 0 (List.replicate 32 [.int .u8 0]) true]) := mk
        simp [Mc.digest_Parse, Ks.digest_Parse, frInit, upd, lkp, lenAV, h64, mk', -List.reduceReplicate]
        refine lp _ (fun o' env ho' => ?_)
        rw [hd'] at ho'
        have hol := unhex_len 32 s o' (by omega) ho'
        have c1 : ∀ st, opV G st [Blk.arr 1 0 (o'.map byteRow) true] .b2s (some [.own 0 0 32]) = some (.str o', [Blk.arr 1 0 (o'.map byteRow) true]) := fun st => by
          have hr : rowsOf [Blk.arr 1 0 (o'.map byteRow) true] (.own 0 0 32) = some (o'.map byteRow) := rows_own (h := [Blk.arr 1 0 (o'.map byteRow) true]) rfl (by simp [hol])
          rw [opV_quiet rfl]
          simp only [evalPure, hr, bytes_back]
          rfl
        have en : dparseE s = (o', 0) := by simp [dparseE, h64, ho']
        simp [c1, en, pureQ, Rs.digest_Parse]
      · have e1 : eqB (s.length : Int) 64 = false := eqB_not.2 (by omega)
        have en : dparseE s = ([], 4) := by simp [dparseE, h64]
        simp [Mc.digest_Parse, Ks.digest_Parse, frInit, upd, lkp, lenAV, e1, en, pureQ, Rs.digest_Parse]
    · cases hF
  · cases hF

end Go.Proofs.YtmjdgpiofhildaaGreatDoor

namespace Go.Proofs.YtmjdgpiofhildaaGreatDoor
open Go.RowKit Go.IntWalk

/-- The numbers of a step line. -/
structure Hd where
  a : Int
  b : Int
  c : Int
  deriving DecidableEq

def hdE : List Bs → Hd × Bool
  | [w, x, y, z] => if w = [115, 116, 101, 112] then (⟨numE x, numE y, numE z⟩, decide (0 ≤ numE x) && decide (0 ≤ numE y) && decide (0 ≤ numE z)) else (⟨0, 0, 0⟩, false)
  | _ => (⟨0, 0, 0⟩, false)
def Hd.row (d : Hd) (x : AV) : List AV := [.int .i64 d.a, .int .i64 d.b, .int .i64 d.c, x, .str [], .str []]
def F_stepP : List AV → Option AV := fun args => match args with
  | [x] => ((eSl rStr).dec x).bind fun ws => if okW ws then some (.tup [.agg ((hdE ws).1.row .nils), .bool (hdE ws).2]) else none
  | _ => none

theorem stepP_ok {G : Gam} (hN : G Fn.record_number = some (.pure F_number)) : ∀ args r, F_stepP args = some r → wpM G Mc.record_step (pureKQ Rs.record_step r) [] (frInit Ks.record_step args) [] := by
  intro args r hF
  unfold F_stepP at hF
  split at hF
  · rename_i x
    obtain ⟨ws, hdec, hF2⟩ := Option.bind_eq_some_iff.1 hF
    clear hF
    have hx := (eSl rStr).ed x ws hdec
    subst hx
    have hF := hF2
    clear hF2 hdec
    split at hF
    · rename_i ho
      injection hF with hF; subst hF
      simp only [okW, Bool.and_eq_true, decide_eq_true_eq, List.all_eq_true] at ho
      rw [wpM_go]
      show goM G _ _ _ _ (frInit _ [.sl (ws.map rStr.enc)]) _
      have b0 : ∀ st h, opV G st h (.bld [.int .i64 0, .int .i64 0, .int .i64 0, .nils, .str [], .str []] []) (some []) = some (.agg ((⟨0, 0, 0⟩ : Hd).row .nils), h) := fun st h => by rw [opV_quiet rfl]; rfl
      have b1 : ∀ st h (a b c : Int), opV G st h (.bld [.int .i64 0, .int .i64 0, .int .i64 0, .nils, .str [], .str []] [(0, 1), (1, 1), (2, 1)]) (some [.int .i64 a, .int .i64 b, .int .i64 c]) = some (.agg ((⟨a, b, c⟩ : Hd).row .nils), h) := fun st h a b c => by rw [opV_quiet rfl]; rfl
      by_cases h4 : ws.length = 4
      · obtain ⟨w, x, y, z, rfl⟩ : ∃ w x y z, ws = [w, x, y, z] := by
          match ws, h4 with
          | [w, x, y, z], _ => exact ⟨w, x, y, z, rfl⟩
        have nb : ∀ s, s.length < big → ∀ st h, opV G st h (.call Fn.record_number) (some [.str s]) = some (.int .i64 (numE s), h) := fun s hs st h => op_call hN (us := [.str s]) rfl (by
          simp only [F_number]; rw [if_pos (by unfold big at hs; omega)]) (.inl rfl)
        have c1 := nb x (ho.2 x (by simp))
        have c2 := nb y (ho.2 y (by simp))
        have c3 := nb z (ho.2 z (by simp))
        by_cases hw : w = [115, 116, 101, 112]
        · subst hw
          generalize hx : numE x = a at *
          generalize hy : numE y = b at *
          generalize hz : numE z = c at *
          have en : hdE [[115, 116, 101, 112], x, y, z] = (⟨a, b, c⟩, decide (0 ≤ a) && decide (0 ≤ b) && decide (0 ≤ c)) := by simp [hdE, hx, hy, hz]
          rw [en]
          have dc : decide (c < 0) = !decide (0 ≤ c) := by by_cases h : c < 0 <;> simp [h] <;> omega
          by_cases ha : 0 ≤ a
          · by_cases hb : 0 ≤ b
            · simp [dc, Mc.record_step, Ks.record_step, frInit, upd, lkp, lenAV, iadrAV, cut, mkVal, c1, c2, c3, b1, Hd.row, setAt, AV.cells, oneC, ltB, ha, hb, pureKQ, viewK, viewKL, Rs.record_step]
            · simp [Mc.record_step, Ks.record_step, frInit, upd, lkp, lenAV, iadrAV, cut, mkVal, c1, c2, c3, b1, Hd.row, setAt, AV.cells, oneC, ltB, ha, hb, pureKQ, viewK, viewKL, Rs.record_step]
          · simp [Mc.record_step, Ks.record_step, frInit, upd, lkp, lenAV, iadrAV, cut, mkVal, c1, c2, c3, b1, Hd.row, setAt, AV.cells, oneC, ltB, ha, pureKQ, viewK, viewKL, Rs.record_step]
        · have hb : (w == [115, 116, 101, 112]) = false := by simpa using hw
          simp [Mc.record_step, Ks.record_step, frInit, upd, lkp, lenAV, iadrAV, cut, mkVal, hb, b0, pureKQ, viewK, viewKL, Rs.record_step, hdE, hw, Hd.row, setAt, AV.cells, oneC]
      · have e3 : eqB (ws.length : Int) 4 = false := eqB_not.2 (by omega)
        have hf : hdE ws = (⟨0, 0, 0⟩, false) := by
          unfold hdE
          split
          · simp at h4
          · rfl
        simp [Mc.record_step, Ks.record_step, frInit, upd, lkp, lenAV, e3, cut, mkVal, b0, pureKQ, viewK, viewKL, Rs.record_step, hf, Hd.row, setAt, AV.cells, oneC]
    · cases hF
  · cases hF

theorem PureK.record_step {m : GvP} {G : Gam} (hG : GamOK Tryz.prog (gv1 m) G) {F : List AV → Option AV} (hF : ∀ args r, F args = some r → wpM G Mc.record_step (pureKQ Rs.record_step r) [] (frInit Ks.record_step args) []) : PureOK Tryz.prog (gv1 m) Fn.record_step F :=
  pureK_of (by kernel_rfl) hG Tryz.func45 rfl (ks := Ks.record_step) (rs := Rs.record_step) (by kernel_rfl) (by kernel_rfl) (Ok.record_step m) hF

end Go.Proofs.YtmjdgpiofhildaaGreatDoor

namespace Go.Proofs.YtmjdgpiofhildaaGreatDoor
open Go.RowKit Go.IntWalk

def Done.rowX (d : Done) (x : AV) : List AV := [.int .i64 d.pkg, .int .i64 d.line, .int .i64 d.kind, x, .str d.wrote.path, .str d.wrote.dig]

/-- The array for what the last step reads, the array of the steps, how many there are. -/
inductive PH : List Done → Option (Hd × List Touch) → Blk → Blk → Nat → Prop
  | nil (v0 : Nat) (rows0 : List (List AV)) (wr0 : Bool) : PH [] none (.arr 2 v0 rows0 wr0) (.arr 6 0 [] true) 0
  | closed (dn : List Done) (d : Done) (v0 : Nat) : PH (dn ++ [d]) none (.arr 2 v0 (touchRows d.reads) true) (.arrX true none 6 (dn.length + 1) (doneRows dn ++ [d.rowX (.own 0 v0 d.reads.length)]) true) (dn.length + 1)
  | opened (dn : List Done) (hd : Hd) (v0 : Nat) (rows0 : List (List AV)) (wr0 : Bool) : PH dn (some (hd, [])) (.arr 2 v0 rows0 wr0) (.arr 6 (dn.length + 1) (doneRows dn ++ [hd.row .nils]) true) (dn.length + 1)
  | reading (dn : List Done) (hd : Hd) (rs : List Touch) (v0 : Nat) (h : rs ≠ []) : PH dn (some (hd, rs)) (.arr 2 v0 (touchRows rs) true) (.arrX true none 6 (dn.length + 1) (doneRows dn ++ [hd.row (.own 0 v0 rs.length)]) true) (dn.length + 1)

def PHeap (b0 b3 : Blk) (ex : Heap) : Heap := b0 :: .arr 6 0 [] true :: .arr 2 0 [] true :: b3 :: ex

theorem view_touch (h : Heap) : ∀ ts : List Touch, viewRows h (touchRows ts) = some (touchRows ts)
  | [] => rfl
  | t :: ts => by
    have := view_touch h ts
    simp only [touchRows] at this
    simp [touchRows, viewRows, this, Touch.row]
theorem view_done (h : Heap) : ∀ ds : List Done, viewRows h (doneRows ds) = some (doneRows ds)
  | [] => rfl
  | d :: ds => by
    have := view_done h ds
    simp only [doneRows] at this
    simp [doneRows, viewRows, this, Done.row]
theorem viewRows_app {h : Heap} : ∀ {xs ys vs us : List (List AV)}, viewRows h xs = some vs → viewRows h ys = some us → viewRows h (xs ++ ys) = some (vs ++ us)
  | [], ys, vs, us, h1, h2 => by simp only [viewRows] at h1; injection h1 with h1; subst h1; exact h2
  | x :: xs, ys, vs, us, h1, h2 => by
    simp only [viewRows] at h1
    split at h1
    · rename_i v vs' k1 k2
      injection h1 with h1; subst h1
      simp only [List.cons_append, viewRows, k1, viewRows_app k2 h2]
    · cases h1
theorem view_rowX {h : Heap} {d : Done} {v0 : Nat} (hx : rowsOf h (.own 0 v0 d.reads.length) = some (touchRows d.reads)) : viewRows h [d.rowX (.own 0 v0 d.reads.length)] = some [d.row] := by
  simp [viewRows, Done.rowX, Done.row, hx]
theorem owns_done : ∀ ds : List Done, ownsL (doneRows ds).flatten = []
  | [] => rfl
  | d :: ds => by
    have := owns_done ds
    simp only [doneRows] at this
    simp [doneRows, ownsL, owns, this, Done.row]
theorem low_done (n : Nat) : ∀ (ds : List Done) {rows : List (List AV)}, lowRows n rows = true → lowRows n (doneRows ds ++ rows) = true
  | [], _, h => h
  | d :: ds, rows, h => by
    have := low_done n ds h
    simp only [doneRows] at this
    simp [doneRows, lowRows, lowL, low, this, Done.row]
theorem PH.low {dn : List Done} {o : Option (Hd × List Touch)} {b0 b3 : Blk} {k : Nat} (hp : PH dn o b0 b3 k) : lowB 4 b0 = true ∧ lowB 4 b3 = true := by
  cases hp with
  | nil => exact ⟨rfl, rfl⟩
  | closed dn d v0 => exact ⟨rfl, low_done 4 dn (by simp [Done.rowX])⟩
  | opened => exact ⟨rfl, rfl⟩
  | reading dn hd rs v0 h => exact ⟨rfl, low_done 4 dn (by simp [Hd.row])⟩

theorem rows_last (ds : List Done) (row : List AV) : (doneRows ds ++ [row])[ds.length]? = some row := by
  rw [List.getElem?_append_right (by simp)]; simp
theorem set_lastD (ds : List Done) (row row' : List AV) : (doneRows ds ++ [row]).set ds.length row' = doneRows ds ++ [row'] := by
  have := List.set_append_right (s := doneRows ds) (t := [row]) ds.length row' (by simp)
  rw [this]; simp
theorem doneRows_app (ds : List Done) (d : Done) : doneRows (ds ++ [d]) = doneRows ds ++ [d.row] := by simp [doneRows]

/-- What is left when nothing is open. -/
theorem ph_settle {dn : List Done} {b0 b3 : Blk} {k : Nat} (ex : Heap) (hp : PH dn none b0 b3 k) :
    ∃ v0 rows0 wr0, settle1 (PHeap b0 b3 ex) (.own 3 k k) = some (PHeap (.arr 2 v0 rows0 wr0) (.arr 6 k (doneRows dn) true) ex) ∧ k = dn.length := by
  cases hp with
  | nil v0 rows0 wr0 => exact ⟨v0, rows0, wr0, rfl, rfl⟩
  | closed dn d v0 =>
    refine ⟨v0, touchRows d.reads, false, ?_, by simp⟩
    have hr : rowsOf (PHeap (.arr 2 v0 (touchRows d.reads) true) (.arrX true none 6 (dn.length + 1) (doneRows dn ++ [d.rowX (.own 0 v0 d.reads.length)]) true) ex) (.own 0 v0 d.reads.length) = some (touchRows d.reads) := rows_own (l := 0) rfl (by simp)
    have hv : viewRows (PHeap (.arr 2 v0 (touchRows d.reads) true) (.arrX true none 6 (dn.length + 1) (doneRows dn ++ [d.rowX (.own 0 v0 d.reads.length)]) true) ex) (doneRows dn ++ [d.rowX (.own 0 v0 d.reads.length)]) = some (doneRows dn ++ [d.row]) :=
      viewRows_app (view_done _ dn) (view_rowX hr)
    have ho : ownsL (doneRows dn ++ [d.rowX (.own 0 v0 d.reads.length)]).flatten = [0] := by
      rw [List.flatten_append, ownsL_app, owns_done]; simp [ownsL, owns, Done.rowX]
    have hg : (PHeap (.arr 2 v0 (touchRows d.reads) true) (.arrX true none 6 (dn.length + 1) (doneRows dn ++ [d.rowX (.own 0 v0 d.reads.length)]) true) ex)[3]? = some (.arrX true none 6 (dn.length + 1) (doneRows dn ++ [d.rowX (.own 0 v0 d.reads.length)]) true) := rfl
    simp only [settle1, hg, hv, ho, Option.map_some, doneRows_app]
    rfl

theorem ph_open {G : Gam} {st : Bool} {dn : List Done} {b0 b3 : Blk} {k : Nat} (ex : Heap) (hd : Hd) (hp : PH dn none b0 b3 k) (hk : k < big) :
    ∃ b0' b3', opV G st (PHeap b0 b3 ex) (.pre [.settle, .slot 0] (.app false 6 80)) (some [.own 3 k k, .tsl [hd.row .nils]]) = some (.own 3 (k + 1) (k + 1), PHeap b0' b3' ex) ∧ PH dn (some (hd, [])) b0' b3' (k + 1) := by
  obtain ⟨v0, rows0, wr0, h1, h2⟩ := ph_settle ex hp
  subst h2
  refine ⟨.arr 2 v0 rows0 wr0, .arr 6 (dn.length + 1) (doneRows dn ++ [hd.row .nils]) true, ?_, .opened dn hd v0 rows0 wr0⟩
  rw [opV_pre rfl]
  have hpre : preAVs [.settle, .slot 0] (PHeap b0 b3 ex) [.own 3 dn.length dn.length, .tsl [hd.row .nils]] = some (PHeap (.arr 2 v0 rows0 wr0) (.arr 6 dn.length (doneRows dn) true) ex, [.own 3 dn.length dn.length, .tsl [hd.row .nils]]) := by
    simp only [preAVs, preAV, settleL, h1]
    rfl
  rw [hpre, Option.bind_some]
  have := op_app (G := G) (s := false) (h := PHeap (.arr 2 v0 rows0 wr0) (.arr 6 dn.length (doneRows dn) true) ex) (n := 6) (b := 80) (l := 3) (ver := dn.length) (k := dn.length) (x := .tsl [hd.row .nils]) (new := [hd.row .nils]) (rows := doneRows dn) rfl rfl (by simp) rfl (by simp)
    (by unfold big at hk; unfold byteMax; simp; omega) (by unfold big at hk; unfold byteMax; simp; omega)
  rw [this]
  rfl

theorem ph_addr {dn : List Done} {o : Hd × List Touch} {b0 b3 : Blk} {k : Nat} (ex : Heap) (hp : PH dn (some o) b0 b3 k) : k = dn.length + 1 ∧ iadrAV 6 (PHeap b0 b3 ex) (.own 3 k k) (.int .i64 dn.length) = some (.eptr 3 k dn.length 0) := by
  cases hp with
  | opened dn hd v0 rows0 wr0 =>
    refine ⟨rfl, ?_⟩
    have hg : (PHeap (.arr 2 v0 rows0 wr0) (.arr 6 (dn.length + 1) (doneRows dn ++ [hd.row .nils]) true) ex)[3]? = some (.arr 6 (dn.length + 1) (doneRows dn ++ [hd.row .nils]) true) := rfl
    simp only [iadrAV, hg, Int.toNat_natCast, rows_last]
    simp [Hd.row]; omega
  | reading dn hd rs v0 h =>
    refine ⟨rfl, ?_⟩
    have hg : (PHeap (.arr 2 v0 (touchRows rs) true) (.arrX true none 6 (dn.length + 1) (doneRows dn ++ [hd.row (.own 0 v0 rs.length)]) true) ex)[3]? = some (.arrX true none 6 (dn.length + 1) (doneRows dn ++ [hd.row (.own 0 v0 rs.length)]) true) := rfl
    simp only [iadrAV, hg, Int.toNat_natCast, rows_last]
    simp [Hd.row]; omega

theorem ph_load {dn : List Done} {hd : Hd} {rs : List Touch} {b0 b3 : Blk} {k : Nat} (ex : Heap) (hp : PH dn (some (hd, rs)) b0 b3 k) : ∃ x, loadAV 1 false (PHeap b0 b3 ex) (.eptr 3 k dn.length 3) = some x ∧ ∀ h, lenAV h 1 x = some (.int .i64 rs.length) := by
  cases hp with
  | opened dn hd v0 rows0 wr0 =>
    have hg : (PHeap (.arr 2 v0 rows0 wr0) (.arr 6 (dn.length + 1) (doneRows dn ++ [hd.row .nils]) true) ex)[3]? = some (.arr 6 (dn.length + 1) (doneRows dn ++ [hd.row .nils]) true) := rfl
    refine ⟨.nils, ?_, fun h => rfl⟩
    simp only [loadAV, hg, rows_last]
    simp [Hd.row, cut]
  | reading dn hd rs v0 h =>
    have hg : (PHeap (.arr 2 v0 (touchRows rs) true) (.arrX true none 6 (dn.length + 1) (doneRows dn ++ [hd.row (.own 0 v0 rs.length)]) true) ex)[3]? = some (.arrX true none 6 (dn.length + 1) (doneRows dn ++ [hd.row (.own 0 v0 rs.length)]) true) := rfl
    refine ⟨.own 0 v0 rs.length, ?_, fun h => rfl⟩
    simp only [loadAV, hg, rows_last]
    simp [Hd.row, cut]

theorem ph_read {G : Gam} {dn : List Done} {hd : Hd} {rs : List Touch} {b0 b3 : Blk} {k : Nat} (ex : Heap) (t : Touch) (hp : PH dn (some (hd, rs)) b0 b3 k) (hb : rs.length < big) :
    ∃ x x' b0' b3', loadAV 1 false (PHeap b0 b3 ex) (.eptr 3 k dn.length 3) = some x ∧ opV G true (PHeap b0 b3 ex) (.pre [.settle, .slot 0] (.app false 2 32)) (some [x, .tsl [t.row]]) = some (x', PHeap b0' b3 ex) ∧
      opV G true (PHeap b0' b3 ex) (.pre [.nest] (.st 1)) (some [.eptr 3 k dn.length 3, x']) = some (.junk, PHeap b0' b3' ex) ∧ PH dn (some (hd, rs ++ [t])) b0' b3' k := by
  cases hp with
  | opened dn hd v0 rows0 wr0 =>
    refine ⟨.nils, .own 0 (v0 + 1 + 1) 1, .arr 2 (v0 + 1 + 1) (touchRows [t]) true, .arrX true none 6 (dn.length + 1) (doneRows dn ++ [hd.row (.own 0 (v0 + 1 + 1) 1)]) true, ?_, ?_, ?_, ?_⟩
    · obtain ⟨x, h1, _⟩ := ph_load ex (PH.opened dn hd v0 rows0 wr0)
      have hg : (PHeap (.arr 2 v0 rows0 wr0) (.arr 6 (dn.length + 1) (doneRows dn ++ [hd.row .nils]) true) ex)[3]? = some (.arr 6 (dn.length + 1) (doneRows dn ++ [hd.row .nils]) true) := rfl
      simp only [loadAV, hg, rows_last]
      simp [Hd.row, cut]
    · rw [opV_pre rfl]
      have hg : (PHeap (.arr 2 v0 rows0 wr0) (.arr 6 (dn.length + 1) (doneRows dn ++ [hd.row .nils]) true) ex)[0]? = some (.arr 2 v0 rows0 wr0) := rfl
      simp only [preAVs, preAV, settleL, settle1, Option.map_some, Option.bind_some, hg]
      have := op_app (G := G) (s := false) (h := (PHeap (.arr 2 v0 rows0 wr0) (.arr 6 (dn.length + 1) (doneRows dn ++ [hd.row .nils]) true) ex).set 0 (.arr 2 (v0 + 1) [] true)) (n := 2) (b := 32) (l := 0) (ver := v0 + 1) (k := 0) (x := .tsl [t.row]) (new := [t.row]) (rows := []) rfl rfl rfl rfl (by simp)
        (by unfold byteMax; simp) (by unfold byteMax; simp)
      exact this
    · rw [opV_pre rfl]
      have hg : (PHeap (.arr 2 (v0 + 1 + 1) (touchRows [t]) true) (.arr 6 (dn.length + 1) (doneRows dn ++ [hd.row .nils]) true) ex)[3]? = some (.arr 6 (dn.length + 1) (doneRows dn ++ [hd.row .nils]) true) := rfl
      have ho : (owns (.own 0 (v0 + 1 + 1) 1)).isEmpty = false := rfl
      simp only [preAVs, preAV, hg, ho, Option.bind_some, Bool.false_eq_true, if_false]
      rw [op_st]
      have hg2 : ((PHeap (.arr 2 (v0 + 1 + 1) (touchRows [t]) true) (.arr 6 (dn.length + 1) (doneRows dn ++ [hd.row .nils]) true) ex).set 3 (.arrX true none 6 (dn.length + 1) (doneRows dn ++ [hd.row .nils]) true))[3]? = some (.arrX true none 6 (dn.length + 1) (doneRows dn ++ [hd.row .nils]) true) := rfl
      have hl : (hd.row .nils).length = 6 := rfl
      have hs : setAt (hd.row .nils) 3 [.own 0 (v0 + 1 + 1) 1] = hd.row (.own 0 (v0 + 1 + 1) 1) := rfl
      simp only [stAV, AV.cells, List.length_singleton, List.all_cons, oneC, List.all_nil, Bool.and_self, Nat.lt_add_one, and_self, if_true, hg2, rows_last, hl, hs, set_lastD]
      rfl
    · exact .reading dn hd [t] (v0 + 1 + 1) (by simp)
  | reading dn hd rs v0 h =>
    refine ⟨.own 0 v0 rs.length, .own 0 (v0 + 1) (rs.length + 1), .arr 2 (v0 + 1) (touchRows (rs ++ [t])) true, .arrX true none 6 (dn.length + 1) (doneRows dn ++ [hd.row (.own 0 (v0 + 1) (rs ++ [t]).length)]) true, ?_, ?_, ?_, ?_⟩
    · have hg : (PHeap (.arr 2 v0 (touchRows rs) true) (.arrX true none 6 (dn.length + 1) (doneRows dn ++ [hd.row (.own 0 v0 rs.length)]) true) ex)[3]? = some (.arrX true none 6 (dn.length + 1) (doneRows dn ++ [hd.row (.own 0 v0 rs.length)]) true) := rfl
      simp only [loadAV, hg, rows_last]
      simp [Hd.row, cut]
    · rw [opV_pre rfl]
      have hg : (PHeap (.arr 2 v0 (touchRows rs) true) (.arrX true none 6 (dn.length + 1) (doneRows dn ++ [hd.row (.own 0 v0 rs.length)]) true) ex)[0]? = some (.arr 2 v0 (touchRows rs) true) := rfl
      simp only [preAVs, preAV, settleL, settle1, Option.map_some, Option.bind_some, hg]
      have := op_app (G := G) (s := false) (h := (PHeap (.arr 2 v0 (touchRows rs) true) (.arrX true none 6 (dn.length + 1) (doneRows dn ++ [hd.row (.own 0 v0 rs.length)]) true) ex)) (n := 2) (b := 32) (l := 0) (ver := v0) (k := rs.length) (x := .tsl [t.row]) (new := [t.row]) (rows := touchRows rs) rfl rfl (by simp) rfl (by simp)
        (by unfold big at hb; unfold byteMax; simp; omega) (by unfold big at hb; unfold byteMax; simp; omega)
      rw [this]
      simp [touchRows, PHeap]
    · rw [opV_pre rfl]
      have hg : (PHeap (.arr 2 (v0 + 1) (touchRows (rs ++ [t])) true) (.arrX true none 6 (dn.length + 1) (doneRows dn ++ [hd.row (.own 0 v0 rs.length)]) true) ex)[3]? = some (.arrX true none 6 (dn.length + 1) (doneRows dn ++ [hd.row (.own 0 v0 rs.length)]) true) := rfl
      simp only [preAVs, preAV, hg, Option.bind_some]
      rw [op_st]
      have hl : (hd.row (.own 0 v0 rs.length)).length = 6 := rfl
      have hs : setAt (hd.row (.own 0 v0 rs.length)) 3 [.own 0 (v0 + 1) (rs.length + 1)] = hd.row (.own 0 (v0 + 1) (rs.length + 1)) := rfl
      have hll : (rs ++ [t]).length = rs.length + 1 := by simp
      simp only [stAV, AV.cells, List.length_singleton, List.all_cons, oneC, List.all_nil, Bool.and_self, Nat.lt_add_one, and_self, if_true, hg, rows_last, hl, hs, set_lastD, hll]
      rfl
    · have hll : (rs ++ [t]).length = rs.length + 1 := by simp
      exact .reading dn hd (rs ++ [t]) (v0 + 1) (by simp)

def mkDone (hd : Hd) (rs : List Touch) (t : Touch) : Done := ⟨hd.a, hd.b, hd.c, rs, t⟩

theorem ph_write {G : Gam} {st : Bool} {dn : List Done} {hd : Hd} {rs : List Touch} {b0 b3 : Blk} {k : Nat} (ex : Heap) (t : Touch) (hp : PH dn (some (hd, rs)) b0 b3 k) (hr : rs ≠ []) :
    ∃ b3', opV G st (PHeap b0 b3 ex) (.pre [.nest] (.st 2)) (some [.eptr 3 k dn.length 4, .agg t.row]) = some (.junk, PHeap b0 b3' ex) ∧ PH (dn ++ [mkDone hd rs t]) none b0 b3' k := by
  cases hp with
  | opened dn hd v0 rows0 wr0 => exact absurd rfl hr
  | reading dn hd rs v0 h =>
    refine ⟨.arrX true none 6 (dn.length + 1) (doneRows dn ++ [(mkDone hd rs t).rowX (.own 0 v0 rs.length)]) true, ?_, .closed dn (mkDone hd rs t) v0⟩
    rw [opV_pre rfl]
    have hg : (PHeap (.arr 2 v0 (touchRows rs) true) (.arrX true none 6 (dn.length + 1) (doneRows dn ++ [hd.row (.own 0 v0 rs.length)]) true) ex)[3]? = some (.arrX true none 6 (dn.length + 1) (doneRows dn ++ [hd.row (.own 0 v0 rs.length)]) true) := rfl
    simp only [preAVs, preAV, hg, Option.bind_some]
    rw [op_st]
    have hl : (hd.row (.own 0 v0 rs.length)).length = 6 := rfl
    have hs : setAt (hd.row (.own 0 v0 rs.length)) 4 [.str t.path, .str t.dig] = (mkDone hd rs t).rowX (.own 0 v0 rs.length) := rfl
    have hc : (AV.agg t.row).cells = [.str t.path, .str t.dig] := rfl
    simp only [stAV, hc, List.length_cons, List.length_nil, List.all_cons, oneC, List.all_nil, Bool.and_self, and_self, if_true, hg, rows_last, hl, hs, set_lastD, Nat.zero_add, Nat.zero_lt_succ, Nat.le_refl, Nat.reduceAdd]
    rfl

end Go.Proofs.YtmjdgpiofhildaaGreatDoor
