/- The digest: words of 64 bits, arrays of them, a rotation, a round. The digest's round. The digest's permutation. -/
import Derived.Test.YtmjdgpiofhildaaGreatDoorRmE
namespace Go.Proofs.YtmjdgpiofhildaaGreatDoor
open Go.RowKit Go.IntWalk

/-! ### Words -/
def xo (a b : Int) : Int := IntKind.u64.wrap (BitVec.ofInt 64 a ^^^ BitVec.ofInt 64 b).toNat
def an (a b : Int) : Int := IntKind.u64.wrap (BitVec.ofInt 64 a &&& BitVec.ofInt 64 b).toNat
def oo (a b : Int) : Int := IntKind.u64.wrap (BitVec.ofInt 64 a ||| BitVec.ofInt 64 b).toNat
def nt (a : Int) : Int := IntKind.u64.wrap (BitVec.ofInt 64 IntKind.u64.max ^^^ BitVec.ofInt 64 a).toNat
def sl (a b : Int) : Int := IntKind.u64.wrap (a * 2 ^ Nat.min b.toNat 64)
def sr (a b : Int) : Int := a.fdiv (2 ^ Nat.min b.toNat 64)
theorem wU_nonneg (a : Int) : 0 ≤ IntKind.u64.wrap a := by
  unfold IntKind.wrap
  simp [IntKind.signed, IntKind.bits]
  exact Int.emod_nonneg _ (by decide)
@[simp] theorem bin_xo {a b : Int} : binAV .xor (.int .u64 a) (.int .u64 b) = some (.int .u64 (xo a b)) := rfl
@[simp] theorem bin_an {a b : Int} : binAV .and (.int .u64 a) (.int .u64 b) = some (.int .u64 (an a b)) := rfl
@[simp] theorem bin_oo {a b : Int} : binAV .or (.int .u64 a) (.int .u64 b) = some (.int .u64 (oo a b)) := rfl
@[simp] theorem bin_mulI {a b : Int} : binAV .mul (.int .i64 a) (.int .i64 b) = some (.int .i64 (IntKind.i64.wrap (a * b))) := rfl
@[simp] theorem un_nt {a : Int} : unAV .xor (.int .u64 a) = some (.int .u64 (nt a)) := rfl
theorem bin_sl {a b : Int} {k : IntKind} (hb : 0 ≤ b) : binAV .shl (.int .u64 a) (.int k b) = some (.int .u64 (sl a b)) := by
  have : ¬ b < 0 := by omega
  simp [binAV, this, sl, IntKind.bits]
theorem bin_sr {a b : Int} {k : IntKind} (hb : 0 ≤ b) : binAV .shr (.int .u64 a) (.int k b) = some (.int .u64 (sr a b)) := by
  have : ¬ b < 0 := by omega
  simp [binAV, this, sr, IntKind.bits]

/-! ### Arrays -/
abbrev wd (cs : List Int) : List AV := cs.map (AV.int .u64)
abbrev nm (cs : List Int) : List AV := cs.map (AV.int .i64)
section
variable {G : Gam} {s : Bool} {h : Heap}
theorem cut_at {vs : List AV} {off : Nat} {v : AV} (hv : vs[off]? = some v) : cut vs off 1 = [v] := by
  obtain ⟨ho, rfl⟩ := List.getElem?_eq_some_iff.1 hv
  unfold cut
  rw [List.drop_eq_getElem_cons ho]
  rfl
theorem op_aadr {len size l off i : Nat} {k : IntKind} (hi : i < len) (h2 : 2 ≤ len) : opV G s h (.aadr len size) (some [.ptr l off, .int k i]) = some (.ptr l (off + i * size), h) := by
  rw [opV_quiet rfl]
  have : (0 : Int) ≤ i ∧ (i : Int) < len ∧ 2 ≤ len := ⟨by omega, by omega, h2⟩
  simp [evalPure, this]
theorem op_iarr {len i : Nat} {k : IntKind} {cs : List AV} {v : AV} (hi : i < len) (hv : cs[i]? = some v) : opV G s h (.iarr len 1 false) (some [.agg cs, .int k i]) = some (v, h) := by
  rw [opV_quiet rfl]
  have h1 : (0 : Int) ≤ i ∧ (i : Int) < len := ⟨by omega, by omega⟩
  have := cut_at hv
  simp [evalPure, h1, this, mkVal]
theorem ld_cell {l off : Nat} {vs : List AV} {v : AV} (hl : h[l]? = some (.cells vs)) (hv : vs[off]? = some v) : loadAV 1 false h (.ptr l off) = some v := by
  simp [loadAV, hl, cut_at hv, mkVal]
theorem cut_whole {vs : List AV} {n : Nat} (hn : vs.length = n) : cut vs 0 n = vs := by subst hn; simp [cut]
theorem op_boxed {v : AV} (hv : v.cells ≠ []) : opV G s h .box (some [v]) = some (.ptr h.length 0, h ++ [.cells v.cells]) := by
  rw [opV_eff rfl]
  simp only [evalEff]
  split
  · rename_i e; exact absurd e hv
  · rename_i c cs e; rw [e]
@[simp] theorem viewL_ints {k : IntKind} : ∀ cs : List Int, viewL h (cs.map (AV.int k)) = some (cs.map (AV.int k))
  | [] => rfl
  | c :: cs => by simp [viewL_ints cs]
@[simp] theorem ownsL_ints {k : IntKind} : ∀ cs : List Int, ownsL (cs.map (AV.int k)) = []
  | [] => rfl
  | c :: cs => by simp [ownsL, owns, ownsL_ints cs]
theorem all_one {f : Int → AV} (hf : ∀ x, oneC (f x) = true) : ∀ cs : List Int, (cs.map f).all oneC = true
  | [] => rfl
  | c :: cs => by simp [hf, all_one hf cs]
theorem st_all {l n : Nat} {vs us : List AV} (hl : h[l]? = some (.cells vs)) (h1 : vs.length = n) (h2 : us.length = n) (h0 : 0 < n) (hone : us.all oneC = true) : stAV n h (.ptr l 0) (.agg us) = some (h.set l (.cells us)) := by
  have e : setAt vs 0 us = us := by rw [setAt_splice _ _ _ (by omega)]; simp; omega
  have hc : (AV.agg us).cells = us := rfl
  simp only [stAV, hc, hl, e]
  rw [if_pos ⟨h2, h0, hone⟩, if_pos (by omega)]
theorem ld_all {l n : Nat} {vs : List AV} (hl : h[l]? = some (.cells vs)) (hn : vs.length = n) : loadAV n true h (.ptr l 0) = some (.agg vs) := by
  subst hn; simp [loadAV, hl, cut, mkVal]
theorem st_cell {l off : Nat} {vs : List AV} {k : IntKind} {n : Int} (hl : h[l]? = some (.cells vs)) (ho : off < vs.length) : stAV 1 h (.ptr l off) (.int k n) = some (h.set l (.cells (vs.set off (.int k n)))) := by
  simp [hl, AV.cells, oneC, setAt, show off + 1 ≤ vs.length by omega]
end

def decK (k : IntKind) : List AV → Option (List Int)
  | [] => some []
  | .int k' n :: r => if k' = k then (decK k r).map (n :: ·) else none
  | _ => none
theorem decK_de (k : IntKind) : ∀ xs : List Int, decK k (xs.map (AV.int k)) = some xs
  | [] => rfl
  | x :: xs => by simp [decK, decK_de k xs]
theorem decK_ed (k : IntKind) : ∀ {l : List AV} {xs : List Int}, decK k l = some xs → l = xs.map (AV.int k)
  | [], xs, h => by simp only [decK, Option.some.injEq] at h; subst h; rfl
  | a :: l, xs, h => by
    unfold decK at h
    split at h
    · rename_i e; cases e
    · rename_i k' n r e
      injection e with e1 e2; subst e1 e2
      split at h
      · rename_i hk; subst hk
        simp only [Option.map_eq_some_iff] at h
        obtain ⟨ys, h1, rfl⟩ := h
        rw [decK_ed _ h1]; rfl
      · cases h
    · cases h
def rW : REnc (List Int) := ⟨wd, decK .u64, decK_de .u64, fun _ _ => decK_ed .u64⟩
def rN : REnc (List Int) := ⟨nm, decK .i64, decK_de .i64, fun _ _ => decK_ed .i64⟩
theorem eAgg_wd (x : List Int) : (eAgg rW).enc x = .agg (wd x) := rfl
theorem eAgg_nm (x : List Int) : (eAgg rN).enc x = .agg (nm x) := rfl

def rotE (x k : Int) : Int := oo (sl x (an (IntKind.u64.wrap k) 63)) (sr x (IntKind.u64.wrap (64 - an (IntKind.u64.wrap k) 63)))
def F_rot : List AV → Option AV := F2 (eKind .u64) eInt (eKind .u64) fun x k => some (rotE x k)
theorem rot_ok (G : Gam) : ∀ args r, F_rot args = some r → wpM G Mc.math_bits_RotateLeft64 (pureQ Rs.math_bits_RotateLeft64 r) [] (frInit Ks.math_bits_RotateLeft64 args) [] := F2_ok fun x k r h => by
  injection h with h; subst h
  rw [wpM_go]
  have h1 : 0 ≤ an (IntKind.u64.wrap k) 63 := wU_nonneg _
  have h2 : 0 ≤ IntKind.u64.wrap (64 - an (IntKind.u64.wrap k) 63) := wU_nonneg _
  simp [Mc.math_bits_RotateLeft64, frInit, Ks.math_bits_RotateLeft64, eKind, eInt, Rs.math_bits_RotateLeft64, bin_sl h1, bin_sr h2, rotE]

end Go.Proofs.YtmjdgpiofhildaaGreatDoor

namespace Go.Proofs.YtmjdgpiofhildaaGreatDoor
open Go.RowKit Go.IntWalk

theorem get_wd {cs : List Int} {i : Nat} (hi : i < cs.length) : (wd cs)[i]? = some (.int .u64 (cs.getD i 0)) := by
  simp [List.getD, List.getElem?_eq_getElem hi]
theorem get_nm {cs : List Int} {i : Nat} (hi : i < cs.length) : (nm cs)[i]? = some (.int .i64 (cs.getD i 0)) := by
  simp [List.getD, List.getElem?_eq_getElem hi]
theorem set_wd (cs : List Int) (i : Nat) (x : Int) : (wd cs).set i (.int .u64 x) = wd (cs.set i x) := by simp [List.map_set]
theorem i64_small {n : Int} (h0 : 0 ≤ n) (h1 : n < 1000) : IntKind.i64.wrap n = n := i64_in _ ⟨by omega, by omega⟩

theorem rem5 (i : Nat) : ∃ x : Nat, x = i % 5 ∧ x < 5 ∧ binAV .rem (.int .i64 i) (.int .i64 5) = some (.int .i64 x) := by
  refine ⟨i % 5, rfl, Nat.mod_lt _ (by decide), ?_⟩
  have e : ((i : Int).tmod 5) = ((i % 5 : Nat) : Int) := by rw [Int.tmod_eq_emod_of_nonneg (by omega)]; omega
  simp only [binAV, intBin]
  simp [e]
theorem quo5 {i : Nat} (hi : i < 1000) : ∃ y : Nat, y = i / 5 ∧ binAV .quo (.int .i64 i) (.int .i64 5) = some (.int .i64 y) := by
  refine ⟨i / 5, rfl, ?_⟩
  have e : ((i : Int).tdiv 5) = ((i / 5 : Nat) : Int) := by rw [Int.tdiv_eq_ediv_of_nonneg (by omega)]; omega
  have e2 : IntKind.i64.wrap ((i / 5 : Nat) : Int) = ((i / 5 : Nat) : Int) := i64_small (by omega) (by omega)
  simp only [binAV, intBin]
  simp only [reduceCtorEq, or_self, if_false, if_true, e, e2]
  simp

/-- The columns. -/
def colsE (cs : List Int) (i : Nat) : List Int → List Int
  | [] => cs
  | w :: r => colsE (cs.set (i % 5) (xo (cs.getD (i % 5) 0) w)) (i + 1) r
theorem colsE_len : ∀ (r : List Int) (cs : List Int) (i : Nat), (colsE cs i r).length = cs.length
  | [], _, _ => rfl
  | w :: r, cs, i => by rw [colsE, colsE_len r]; simp
abbrev h4 (st off out cs : List Int) : Heap := [.cells (wd st), .cells (nm off), .cells (wd out), .cells (wd cs)]
abbrev fr_r (st off : List Int) (c : Int) (e8 e9 e10 e11 e12 e13 e14 e15 e16 e17 e18 e30 e31 e69 : AV) : List (Nat × AV) :=
  [(0, .agg (wd st)), (1, .agg (nm off)), (2, .int .u64 c), (3, .ptr 0 0), (4, .ptr 1 0), (6, .ptr 2 0), (7, .ptr 3 0), (8, e8), (9, e9), (10, e10), (11, e11), (12, e12), (13, e13), (14, e14), (15, e15), (16, e16), (17, e17), (18, e18), (30, e30), (31, e31), (69, e69)]

theorem round_L0 (G : Gam) (st off : List Int) (hs : st.length = 25) (c : Int) (out : List Int) {ks : List MK} {Q : MPost} : ∀ (rest : List Int) (i : Nat) (cs : List Int), st.drop i = rest → i ≤ 25 → cs.length = 5 →
    (∀ env, exM G .normal ks Q env (fr_r st off c .junk .junk .junk .junk .junk .junk .junk .junk .junk (.agg (wd st)) (.int .i64 25) .junk .junk .junk) (h4 st off out (colsE cs i rest))) →
    headM G [8, 9] Mc.digest_round_L0 4 (.blk 0 :: ks) Q (fr_r st off c .junk .junk .junk .junk .junk .junk .junk .junk .junk (.agg (wd st)) (.int .i64 i) .junk .junk .junk) (h4 st off out cs)
  | [], i, cs, hd, hi, hc, hk => by
    have hi2 := drop_nil hd
    have e : i = 25 := by omega
    subst e
    have e1 : ltB 25 25 = false := rfl
    refine head_go (Mc.digest_round_L0.eq_1) ?_
    rw [trunc_len (n := 4) rfl]
    have := hk
    simp only [colsE] at this
    simp [e1]
    simpa using this _
  | w :: rest, i, cs, hd, hi, hc, hk => by
    obtain ⟨hi2, hx, hxd⟩ := drop_cons hd
    have hi' : ltB i 25 = true := ltB_iff.2 (by omega)
    have hw := wrap1 (i := i) (by unfold big; omega)
    obtain ⟨x, hxe, hx5, hr⟩ := rem5 i
    simp only [colsE, ← hxe] at hk
    have ia := fun st0 h => op_iarr (G := G) (s := st0) (h := h) (len := 25) (i := i) (k := .i64) (cs := wd st) (v := .int .u64 w) (by omega) (by simp [hx])
    have aa := fun st0 h => op_aadr (G := G) (s := st0) (h := h) (len := 5) (size := 1) (l := 3) (off := 0) (i := x) (k := .i64) hx5 (by decide)
    have ld := cut_at (get_wd (cs := cs) (i := x) (by omega))
    have sc := st_cell (h := h4 st off out cs) (l := 3) (off := x) (vs := wd cs) (k := .u64) (n := xo (cs.getD x 0) w) rfl (by simp; omega)
    rw [set_wd] at sc
    have ih := round_L0 G st off hs c out rest (i + 1) (cs.set x (xo (cs.getD x 0) w)) hxd (by omega) (by simpa using hc) hk
    generalize cs.getD x 0 = v at ld sc ih
    simp only [Nat.zero_add, Nat.mul_one, List.set] at aa sc
    refine head_go (Mc.digest_round_L0.eq_1) ?_
    rw [trunc_len (n := 4) rfl]
    simp [hi', ia, hr, aa, ld, sc, hw, -stAV_ptr]
    refine head_of ?_
    rw [trunc_len (n := 4) rfl]
    simpa [fr_r, h4, wd] using ih

/-- Rotating, into the other array. -/
def turnsE (off cs : List Int) (t : List Int) (i : Nat) : List Int → List Int
  | [] => t
  | w :: r => turnsE off cs (t.set (i / 5 + 5 * ((2 * (i % 5) + 3 * (i / 5)) % 5)) (rotE (xo w (xo (cs.getD ((i % 5 + 4) % 5) 0) (rotE (cs.getD ((i % 5 + 1) % 5) 0) 1))) (off.getD i 0))) (i + 1) r
theorem turnsE_len (off cs : List Int) : ∀ (r t : List Int) (i : Nat), (turnsE off cs t i r).length = t.length
  | [], _, _ => rfl
  | w :: r, t, i => by rw [turnsE, turnsE_len off cs r]; simp
abbrev h5 (st off out cs t : List Int) : Heap := [.cells (wd st), .cells (nm off), .cells (wd out), .cells (wd cs), .cells (wd t)]

theorem round_L1 (G : Gam) (hR : G Fn.math_bits_RotateLeft64 = some (.pure F_rot)) (st off : List Int) (hs : st.length = 25) (ho : off.length = 25) (c : Int) (out cs : List Int) (hc : cs.length = 5) {ks : List MK} {Q : MPost} : ∀ (rest : List Int) (i : Nat) (t : List Int), st.drop i = rest → i ≤ 25 → t.length = 25 →
    (∀ env, exM G .normal ks Q env (fr_r st off c .junk .junk (.ptr 4 0) .junk .junk .junk .junk .junk .junk (.agg (wd st)) (.int .i64 25) (.agg (wd st)) (.int .i64 25) .junk) (h5 st off out cs (turnsE off cs t i rest))) →
    headM G [11, 12, 13, 14] Mc.digest_round_L1 5 (.blk 2 :: ks) Q (fr_r st off c .junk .junk (.ptr 4 0) .junk .junk .junk .junk .junk .junk (.agg (wd st)) (.int .i64 25) (.agg (wd st)) (.int .i64 i) .junk) (h5 st off out cs t)
  | [], i, t, hd, hi, ht, hk => by
    have hi2 := drop_nil hd
    have e : i = 25 := by omega
    subst e
    refine head_go (Mc.digest_round_L1.eq_1) ?_
    rw [trunc_len (n := 5) rfl]
    have := hk
    simp only [turnsE] at this
    simp
    simpa using this _
  | w :: rest, i, t, hd, hi, ht, hk => by
    obtain ⟨hi2, hx, hxd⟩ := drop_cons hd
    have hi' : ltB i 25 = true := ltB_iff.2 (by omega)
    have hw := wrap1 (i := i) (by unfold big; omega)
    obtain ⟨x, hxe, hx5, hr⟩ := rem5 i
    obtain ⟨y, hye, hq⟩ := quo5 (i := i) (by omega)
    have hy5 : y < 5 := by omega
    obtain ⟨x4, hx4e, hx45, hr4⟩ := rem5 (x + 4)
    obtain ⟨x1, hx1e, hx15, hr1⟩ := rem5 (x + 1)
    obtain ⟨z, hze, hz5, hrz⟩ := rem5 (2 * x + 3 * y)
    simp only [turnsE, ← hxe, ← hye, ← hx4e, ← hx1e, ← hze] at hk
    have w1 : IntKind.i64.wrap ((x : Int) + 4) = ((x + 4 : Nat) : Int) := i64_small (by omega) (by omega)
    have w2 : IntKind.i64.wrap ((x : Int) + 1) = ((x + 1 : Nat) : Int) := i64_small (by omega) (by omega)
    have w3 : IntKind.i64.wrap (2 * (x : Int)) = 2 * x := i64_small (by omega) (by omega)
    have w4 : IntKind.i64.wrap (3 * (y : Int)) = 3 * y := i64_small (by omega) (by omega)
    have w5 : IntKind.i64.wrap (2 * (x : Int) + 3 * y) = ((2 * x + 3 * y : Nat) : Int) := by rw [i64_small (by omega) (by omega)]; omega
    have w6 : IntKind.i64.wrap (5 * (z : Int)) = 5 * z := i64_small (by omega) (by omega)
    have w7 : IntKind.i64.wrap ((y : Int) + 5 * z) = ((y + 5 * z : Nat) : Int) := by rw [i64_small (by omega) (by omega)]; omega
    have ia := fun st0 h => op_iarr (G := G) (s := st0) (h := h) (len := 25) (i := i) (k := .i64) (cs := wd st) (v := .int .u64 w) (by omega) (by simp [hx])
    have a1 := fun st0 h => op_aadr (G := G) (s := st0) (h := h) (len := 5) (size := 1) (l := 3) (off := 0) (i := x4) (k := .i64) hx45 (by decide)
    have a2 := fun st0 h => op_aadr (G := G) (s := st0) (h := h) (len := 5) (size := 1) (l := 3) (off := 0) (i := x1) (k := .i64) hx15 (by decide)
    have a3 := fun st0 h => op_aadr (G := G) (s := st0) (h := h) (len := 25) (size := 1) (l := 1) (off := 0) (i := i) (k := .i64) (by omega) (by decide)
    have a4 := fun st0 h => op_aadr (G := G) (s := st0) (h := h) (len := 25) (size := 1) (l := 4) (off := 0) (i := y + 5 * z) (k := .i64) (by omega) (by decide)
    have c1 := cut_at (get_wd (cs := cs) (i := x4) (by omega))
    have c2 := cut_at (get_wd (cs := cs) (i := x1) (by omega))
    have c3 := cut_at (get_nm (cs := off) (i := i) (by omega))
    have cR : ∀ a k st0 h, opV G st0 h (.call Fn.math_bits_RotateLeft64) (some [.int .u64 a, .int .i64 k]) = some (.int .u64 (rotE a k), h) := fun a k st0 h => op_call hR rfl (F2_use (A := eKind .u64) (B := eInt) (R := eKind .u64) (x := a) (y := k) rfl) (.inl rfl)
    have sc := fun v => st_cell (h := h5 st off out cs t) (l := 4) (off := y + 5 * z) (vs := wd t) (k := .u64) (n := v) rfl (by simp; omega)
    simp only [set_wd] at sc
    have ih := round_L1 G hR st off hs ho c out cs hc rest (i + 1) _ hxd (by omega) (by rw [List.length_set]; exact ht) hk
    generalize cs.getD x4 0 = v4 at c1 ih
    generalize cs.getD x1 0 = v1 at c2 ih
    generalize off.getD i 0 = vo at c3 ih
    simp only [Nat.zero_add, Nat.mul_one, List.set] at a1 a2 a3 a4 sc
    generalize y + 5 * z = d at w7 a4 sc ih
    generalize 2 * x + 3 * y = d2 at w5 hrz
    generalize x + 4 = d3 at w1 hr4
    generalize x + 1 = d4 at w2 hr1
    refine head_go (Mc.digest_round_L1.eq_1) ?_
    rw [trunc_len (n := 5) rfl]
    simp [hi', ia, hr, hq, w1, w2, w3, w4, w5, w6, w7, hr4, hr1, hrz, a1, a2, a3, a4, c1, c2, c3, cR, sc, hw, -stAV_ptr]
    refine head_of ?_
    rw [trunc_len (n := 5) rfl]
    simpa [fr_r, h5, wd] using ih

/-- The rows mixed. -/
def mixE (t : List Int) : Nat → Nat → List Int → List Int
  | 0, _, cur => cur
  | n + 1, i, cur => mixE t n (i + 1) (cur.set i (xo (t.getD i 0) (an (nt (t.getD (i - i % 5 + (i + 1) % 5) 0)) (t.getD (i - i % 5 + (i + 2) % 5) 0))))
theorem mixE_len (t : List Int) : ∀ (n i : Nat) (cur : List Int), (mixE t n i cur).length = cur.length
  | 0, _, _ => rfl
  | n + 1, i, cur => by rw [mixE, mixE_len t n]; simp

theorem round_L2 (G : Gam) (st off : List Int) (c : Int) (out cs t : List Int) (ht : t.length = 25) {ks : List MK} {Q : MPost} : ∀ (n i : Nat) (cur : List Int), n + i = 25 → cur.length = 25 →
    (∀ env, exM G .normal ks Q env (fr_r st off c .junk .junk (.ptr 4 0) .junk .junk .junk .junk .junk .junk (.agg (wd st)) (.int .i64 25) (.agg (wd st)) (.int .i64 25) (.int .i64 25)) (h5 (mixE t n i cur) off out cs t)) →
    headM G [15, 16] Mc.digest_round_L2 5 (.blk 4 :: ks) Q (fr_r st off c .junk .junk (.ptr 4 0) .junk .junk .junk .junk .junk .junk (.agg (wd st)) (.int .i64 25) (.agg (wd st)) (.int .i64 25) (.int .i64 i)) (h5 cur off out cs t)
  | 0, i, cur, hn, hc, hk => by
    have e : i = 25 := by omega
    subst e
    refine head_go (Mc.digest_round_L2.eq_1) ?_
    rw [trunc_len (n := 5) rfl]
    have := hk
    simp only [mixE] at this
    simp
    simpa using this _
  | n + 1, i, cur, hn, hc, hk => by
    have hi' : ltB i 25 = true := ltB_iff.2 (by omega)
    have hw := wrap1 (i := i) (by unfold big; omega)
    obtain ⟨x, hxe, hx5, hr⟩ := rem5 i
    obtain ⟨x1, hx1e, hx15, hr1⟩ := rem5 (i + 1)
    obtain ⟨x2, hx2e, hx25, hr2⟩ := rem5 (i + 2)
    simp only [mixE, ← hxe, ← hx1e, ← hx2e] at hk
    have hxi : x ≤ i := by omega
    obtain ⟨q, hq⟩ : ∃ q : Nat, q = i - x := ⟨_, rfl⟩
    rw [← hq] at hk
    have hq20 : q ≤ 20 := by omega
    have w0 : IntKind.i64.wrap ((i : Int) - x) = (q : Nat) := by rw [i64_small (by omega) (by omega)]; omega
    have w1 : IntKind.i64.wrap ((i : Int) + 1) = ((i + 1 : Nat) : Int) := i64_small (by omega) (by omega)
    have w2 : IntKind.i64.wrap ((i : Int) + 2) = ((i + 2 : Nat) : Int) := i64_small (by omega) (by omega)
    have w3 : IntKind.i64.wrap ((q : Int) + x1) = ((q + x1 : Nat) : Int) := i64_small (by omega) (by omega)
    have w4 : IntKind.i64.wrap ((q : Int) + x2) = ((q + x2 : Nat) : Int) := i64_small (by omega) (by omega)
    have a0 := fun st0 h => op_aadr (G := G) (s := st0) (h := h) (len := 25) (size := 1) (l := 4) (off := 0) (i := i) (k := .i64) (by omega) (by decide)
    have a1 := fun st0 h => op_aadr (G := G) (s := st0) (h := h) (len := 25) (size := 1) (l := 4) (off := 0) (i := q + x1) (k := .i64) (by omega) (by decide)
    have a2 := fun st0 h => op_aadr (G := G) (s := st0) (h := h) (len := 25) (size := 1) (l := 4) (off := 0) (i := q + x2) (k := .i64) (by omega) (by decide)
    have a3 := fun st0 h => op_aadr (G := G) (s := st0) (h := h) (len := 25) (size := 1) (l := 0) (off := 0) (i := i) (k := .i64) (by omega) (by decide)
    have c0 := cut_at (get_wd (cs := t) (i := i) (by omega))
    have c1 := cut_at (get_wd (cs := t) (i := q + x1) (by omega))
    have c2 := cut_at (get_wd (cs := t) (i := q + x2) (by omega))
    have sc := fun v => st_cell (h := h5 cur off out cs t) (l := 0) (off := i) (vs := wd cur) (k := .u64) (n := v) rfl (by simp; omega)
    simp only [set_wd] at sc
    have ih := round_L2 G st off c out cs t ht n (i + 1) _ (by omega) (by rw [List.length_set]; exact hc) hk
    generalize t.getD i 0 = v0 at c0 ih
    generalize t.getD (q + x1) 0 = v1 at c1 ih
    generalize t.getD (q + x2) 0 = v2 at c2 ih
    simp only [Nat.zero_add, Nat.mul_one, List.set] at a0 a1 a2 a3 sc
    generalize q + x1 = d1 at w3 a1 c1
    generalize q + x2 = d2 at w4 a2 c2
    have hs1 : ∀ e : Nat, e = i + 1 → True := fun _ _ => trivial
    obtain ⟨e1, he1⟩ : ∃ e : Nat, e = i + 1 := ⟨_, rfl⟩
    obtain ⟨e2, he2⟩ : ∃ e : Nat, e = i + 2 := ⟨_, rfl⟩
    rw [← he1] at w1 hr1 hw ih
    rw [← he2] at w2 hr2
    refine head_go (Mc.digest_round_L2.eq_1) ?_
    rw [trunc_len (n := 5) rfl]
    simp [hi', hr, w0, w1, w2, w3, w4, hr1, hr2, a0, a1, a2, a3, c0, c1, c2, sc, un_nt, -unAV, -stAV_ptr]
    refine head_of ?_
    rw [trunc_len (n := 5) rfl]
    simpa [fr_r, h5, wd] using ih

def roundE (st off : List Int) (c : Int) : List Int :=
  let t := turnsE off (colsE (List.replicate 5 0) 0 st) (List.replicate 25 0) 0 st
  let m := mixE t 25 0 st
  m.set 0 (xo (m.getD 0 0) c)
theorem roundE_len {st off : List Int} {c : Int} : (roundE st off c).length = st.length := by simp [roundE, mixE_len]
def F_round : List AV → Option AV := F3 (eAgg rW) (eAgg rN) (eKind .u64) (eAgg rW) fun st off c => if st.length = 25 ∧ off.length = 25 then some (roundE st off c) else none
theorem round_ok (G : Gam) (hR : G Fn.math_bits_RotateLeft64 = some (.pure F_rot)) : ∀ args r, F_round args = some r → wpM G Mc.digest_round (pureQ Rs.digest_round r) [] (frInit Ks.digest_round args) [] := F3_ok fun st off c r h => by
  split at h
  · rename_i hl
    obtain ⟨hs, ho⟩ := hl
    injection h with h; subst h
    rw [wpM_go]
    simp only [eAgg_wd, eAgg_nm]
    obtain ⟨z, hz⟩ : ∃ z, z = List.replicate 25 (0 : Int) := ⟨_, rfl⟩
    obtain ⟨y, hy⟩ : ∃ y, y = List.replicate 5 (0 : Int) := ⟨_, rfl⟩
    have z25 : [AV.int .u64 0, .int .u64 0, .int .u64 0, .int .u64 0, .int .u64 0, .int .u64 0, .int .u64 0, .int .u64 0, .int .u64 0, .int .u64 0, .int .u64 0, .int .u64 0, .int .u64 0, .int .u64 0, .int .u64 0, .int .u64 0, .int .u64 0, .int .u64 0, .int .u64 0, .int .u64 0, .int .u64 0, .int .u64 0, .int .u64 0, .int .u64 0, .int .u64 0] = wd z := by rw [hz]; rfl
    have z5 : [AV.int .u64 0, .int .u64 0, .int .u64 0, .int .u64 0, .int .u64 0] = wd y := by rw [hy]; rfl
    have hzl : z.length = 25 := by rw [hz]; simp
    have hyl : y.length = 5 := by rw [hy]; simp
    have l0 := fun ks Q hk => round_L0 G st off hs c z (ks := ks) (Q := Q) st 0 y rfl (by omega) hyl hk
    have l1 := fun ks Q hk => round_L1 G hR st off hs ho c z (colsE y 0 st) (by rw [colsE_len]; exact hyl) (ks := ks) (Q := Q) st 0 z rfl (by omega) hzl hk
    have l2 := fun ks Q hk => round_L2 G st off c z (colsE y 0 st) (turnsE off (colsE y 0 st) z 0 st) (by rw [turnsE_len]; exact hzl) (ks := ks) (Q := Q) 25 0 st rfl hs hk
    have hm : (mixE (turnsE off (colsE y 0 st) z 0 st) 25 0 st).length = 25 := by rw [mixE_len]; exact hs
    have hr : roundE st off c = (mixE (turnsE off (colsE y 0 st) z 0 st) 25 0 st).set 0 (xo ((mixE (turnsE off (colsE y 0 st) z 0 st) 25 0 st).getD 0 0) c) := by simp only [roundE, ← hz, ← hy]
    rw [hr]
    clear hr
    generalize colsE y 0 st = cs at l0 l1 l2 hm ⊢
    generalize turnsE off cs z 0 st = t at l1 l2 hm ⊢
    generalize mixE t 25 0 st = m at l2 hm ⊢
    have c0 := cut_at (get_wd (cs := m) (i := 0) (by omega))
    have sc := fun v => st_cell (h := h5 m off z cs t) (l := 0) (off := 0) (vs := wd m) (k := .u64) (n := v) rfl (by simp; omega)
    simp only [set_wd] at sc
    have a0 : ∀ st0 h, opV G st0 h (.aadr 25 1) (some [.ptr 0 0, .int .i64 0]) = some (.ptr 0 0, h) := fun st0 h => by simpa using op_aadr (G := G) (s := st0) (h := h) (len := 25) (size := 1) (l := 0) (off := 0) (i := 0) (k := .i64) (by omega) (by decide)
    generalize m.getD 0 0 = v0 at c0 sc ⊢
    obtain ⟨m2, hm2⟩ : ∃ m2, m2 = m.set 0 (xo v0 c) := ⟨_, rfl⟩
    have hm2l : m2.length = 25 := by rw [hm2]; simpa using hm
    have sc0 := sc (xo v0 c)
    rw [← hm2] at sc0 ⊢
    have sa := st_all (h := h5 m2 off z cs t) (l := 2) (vs := wd z) (us := wd m2) rfl (by simpa using hzl) (by simpa using hm2l) (by omega) (all_one (fun _ => rfl) m2)
    have b1 := fun st0 h => op_boxed (G := G) (s := st0) (h := h) (v := .agg (wd st)) (by intro e; have := congrArg List.length e; simp [AV.cells, hs] at this)
    have b2 := fun st0 h => op_boxed (G := G) (s := st0) (h := h) (v := .agg (nm off)) (by intro e; have := congrArg List.length e; simp [AV.cells, ho] at this)
    have k1 := cut_whole (vs := wd st) (n := 25) (by simpa using hs)
    have k2 := cut_whole (vs := wd m2) (n := 25) (by simpa using hm2l)
    have k3 : (wd st).length = 25 := by simpa using hs
    have k4 : (wd m2).length = 25 := by simpa using hm2l
    have mk1 : mkVal true 25 (wd st) = some (.agg (wd st)) := by simp [mkVal, hs]
    have mk2 : mkVal true 25 (wd m2) = some (.agg (wd m2)) := by simp [mkVal, hm2l]
    have cc1 : (AV.agg (wd st)).cells = wd st := rfl
    have cc2 : (AV.agg (nm off)).cells = nm off := rfl
    simp only [cc1, cc2] at b1 b2
    simp only [List.set] at sc0 sa
    simp only [Mc.digest_round, z25]
    simp only [z5]
    simp [fr_r, h4] at l0
    simp [fr_r, h5] at l1 l2
    simp only [wd, nm] at *
    simp [frInit, Ks.digest_round, eKind, b1, b2, k1, mk1]
    refine l0 _ _ (fun env => ?_)
    simp [k1, mk1]
    refine l1 _ _ (fun env => ?_)
    simp
    refine l2 _ _ (fun env => ?_)
    simp [a0, c0, sc0, sa, k2, mk2, Rs.digest_round, -stAV_ptr]
  · cases h

end Go.Proofs.YtmjdgpiofhildaaGreatDoor

namespace Go.Proofs.YtmjdgpiofhildaaGreatDoor
open Go.RowKit Go.IntWalk

def offsL : List Int := [0, 1, 62, 28, 27, 36, 44, 6, 55, 20, 3, 10, 43, 25, 39, 41, 45, 15, 21, 8, 18, 2, 61, 56, 14]
def constL : List Int := [1, 32898, 9223372036854808714, 9223372039002292224, 32907, 2147483649, 9223372039002292353, 9223372036854808585, 138, 136, 2147516425, 2147483658, 2147516555, 9223372036854775947, 9223372036854808713, 9223372036854808579, 9223372036854808578, 9223372036854775936, 32778, 9223372039002259466, 9223372039002292353, 9223372036854808704, 2147483649, 9223372039002292232]
theorem offsL_len : offsL.length = 25 := rfl
theorem constL_len : constL.length = 24 := rfl

def F_offsets : List AV → Option AV := F0 (.agg (nm offsL))
theorem offsets_ok (G : Gam) : ∀ args r, F_offsets args = some r → wpM G Mc.digest_offsets (pureQ Rs.digest_offsets r) [] (frInit Ks.digest_offsets args) [] := F0_ok (by
  rw [wpM_go]
  simp [Mc.digest_offsets, frInit, Ks.digest_offsets, Rs.digest_offsets, bldAV, AV.cells, setAt, oneC, offsL, cut, mkVal])
def F_constants : List AV → Option AV := F0 (.agg (wd constL))
theorem constants_ok (G : Gam) : ∀ args r, F_constants args = some r → wpM G Mc.digest_constants (pureQ Rs.digest_constants r) [] (frInit Ks.digest_constants args) [] := F0_ok (by
  rw [wpM_go]
  simp [Mc.digest_constants, frInit, Ks.digest_constants, Rs.digest_constants, bldAV, AV.cells, setAt, oneC, constL, cut, mkVal])

def permE (f : List Int → Int → List Int) (st : List Int) : List Int → List Int
  | [] => st
  | c :: r => permE f (f st c) r
theorem permE_len {f : List Int → Int → List Int} (hf : ∀ st c, (f st c).length = st.length) : ∀ (r st : List Int), (permE f st r).length = st.length
  | [], _ => rfl
  | c :: r, st => by rw [permE, permE_len hf r, hf]
abbrev pm_fr (st0 off con : List Int) (e5 e8 : AV) : List (Nat × AV) := [(0, .agg (wd st0)), (1, .ptr 0 0), (2, .ptr 1 0), (3, .ptr 2 0), (5, e5), (7, .agg (wd con)), (8, e8)]
abbrev pm_h (st z off : List Int) : Heap := [.cells (wd st), .cells (wd z), .cells (nm off)]

theorem perm_L0 (G : Gam) (off : List Int) (f : List Int → Int → List Int) (hf : ∀ st c, (f st c).length = st.length) (hR : ∀ st c, st.length = 25 → ∀ st0 h, opV G st0 h (.call Fn.digest_round) (some [.agg (wd st), .agg (nm off), .int .u64 c]) = some (.agg (wd (f st c)), h)) (st0 con z : List Int) (ho : off.length = 25) (hc : con.length = 24) {ks : List MK} {Q : MPost} : ∀ (rest : List Int) (i : Nat) (st : List Int), con.drop i = rest → i ≤ 24 → st.length = 25 →
    (∀ env, exM G .normal ks Q env (pm_fr st0 off con .junk (.int .i64 24)) (pm_h (permE f st rest) z off)) →
    headM G [5] Mc.digest_Permute_L0 3 (.blk 0 :: ks) Q (pm_fr st0 off con .junk (.int .i64 i)) (pm_h st z off)
  | [], i, st, hd, hi, hs, hk => by
    have hi2 := drop_nil hd
    have e : i = 24 := by omega
    subst e
    refine head_go (Mc.digest_Permute_L0.eq_1) ?_
    rw [trunc_len (n := 3) rfl]
    have := hk
    simp only [permE] at this
    simp
    simpa using this _
  | c :: rest, i, st, hd, hi, hs, hk => by
    obtain ⟨hi2, hx, hxd⟩ := drop_cons hd
    have hi' : ltB i 24 = true := ltB_iff.2 (by omega)
    have hw := wrap1 (i := i) (by unfold big; omega)
    have ia := fun st0 h => op_iarr (G := G) (s := st0) (h := h) (len := 24) (i := i) (k := .i64) (cs := wd con) (v := .int .u64 c) (by omega) (by simp [hx])
    have cR := hR st c hs
    have hrl : (f st c).length = 25 := by rw [hf]; exact hs
    simp only [permE] at hk
    have ih := perm_L0 G off f hf hR st0 con z ho hc rest (i + 1) (f st c) hxd (by omega) hrl hk
    have k1 := cut_whole (vs := wd st) (n := 25) (by simpa using hs)
    have mk1 : mkVal true 25 (wd st) = some (.agg (wd st)) := by simp [mkVal, hs]
    have k2 := cut_whole (vs := nm off) (n := 25) (by simpa using ho)
    have mk2 : mkVal true 25 (nm off) = some (.agg (nm off)) := by simp [mkVal, ho]
    generalize f st c = r at cR hrl ih
    have sa := st_all (h := pm_h st z off) (l := 0) (vs := wd st) (us := wd r) rfl (by simpa using hs) (by simpa using hrl) (by omega) (all_one (fun _ => rfl) r)
    simp only [List.set] at sa
    refine head_go (Mc.digest_Permute_L0.eq_1) ?_
    rw [trunc_len (n := 3) rfl]
    simp [hi', ia, k1, k2, mk1, mk2, cR, sa, hw, -stAV_ptr]
    refine head_of ?_
    rw [trunc_len (n := 3) rfl]
    simpa [pm_fr] using ih

theorem round_call {G : Gam} (hR : G Fn.digest_round = some (.pure F_round)) {st off : List Int} {c : Int} (hs : st.length = 25) (ho : off.length = 25) (st0 : Bool) (h : Heap) : opV G st0 h (.call Fn.digest_round) (some [.agg (wd st), .agg (nm off), .int .u64 c]) = some (.agg (wd (roundE st off c)), h) := by
  have hu := F3_use (A := eAgg rW) (B := eAgg rN) (C := eKind .u64) (R := eAgg rW) (f := fun st off c => if st.length = 25 ∧ off.length = 25 then some (roundE st off c) else none) (x := st) (y := off) (z := c) (r := roundE st off c) (if_pos ⟨hs, ho⟩)
  generalize roundE st off c = r at hu ⊢
  exact op_call hR (us := [.agg (wd st), .agg (nm off), .int .u64 c]) (by simp) hu (.inr (by simp [owns, ownsL]))

def F_Permute : List AV → Option AV := F1 (eAgg rW) (eAgg rW) fun st => if st.length = 25 then some (permE (fun st c => roundE st offsL c) st constL) else none
theorem Permute_ok (G : Gam) (hO : G Fn.digest_offsets = some (.pure F_offsets)) (hC : G Fn.digest_constants = some (.pure F_constants)) (hR : G Fn.digest_round = some (.pure F_round)) : ∀ args r, F_Permute args = some r → wpM G Mc.digest_Permute (pureQ Rs.digest_Permute r) [] (frInit Ks.digest_Permute args) [] := F1_ok fun st r h => by
  split at h
  · rename_i hs
    injection h with h; subst h
    rw [wpM_go]
    simp only [eAgg_wd]
    have cO : ∀ st0 h, opV G st0 h (.call Fn.digest_offsets) (some []) = some (.agg (nm offsL), h) := fun st0 h => op_call hO rfl rfl (.inr rfl)
    have cC : ∀ st0 h, opV G st0 h (.call Fn.digest_constants) (some []) = some (.agg (wd constL), h) := fun st0 h => op_call hC rfl rfl (.inr rfl)
    have ho := offsL_len
    have hc := constL_len
    obtain ⟨z, hz⟩ : ∃ z, z = List.replicate 25 (0 : Int) := ⟨_, rfl⟩
    have z25 : [AV.int .u64 0, .int .u64 0, .int .u64 0, .int .u64 0, .int .u64 0, .int .u64 0, .int .u64 0, .int .u64 0, .int .u64 0, .int .u64 0, .int .u64 0, .int .u64 0, .int .u64 0, .int .u64 0, .int .u64 0, .int .u64 0, .int .u64 0, .int .u64 0, .int .u64 0, .int .u64 0, .int .u64 0, .int .u64 0, .int .u64 0, .int .u64 0, .int .u64 0] = wd z := by rw [hz]; rfl
    have y25 : [AV.int .i64 0, .int .i64 0, .int .i64 0, .int .i64 0, .int .i64 0, .int .i64 0, .int .i64 0, .int .i64 0, .int .i64 0, .int .i64 0, .int .i64 0, .int .i64 0, .int .i64 0, .int .i64 0, .int .i64 0, .int .i64 0, .int .i64 0, .int .i64 0, .int .i64 0, .int .i64 0, .int .i64 0, .int .i64 0, .int .i64 0, .int .i64 0, .int .i64 0] = nm z := by rw [hz]; rfl
    have hzl : z.length = 25 := by rw [hz]; simp
    have hcall : ∀ st c, st.length = 25 → ∀ st0 h, opV G st0 h (.call Fn.digest_round) (some [.agg (wd st), .agg (nm offsL), .int .u64 c]) = some (.agg (wd (roundE st offsL c)), h) := fun st c hs st0 h => round_call hR hs ho st0 h
    have hflen : ∀ st c, (roundE st offsL c).length = st.length := fun st c => roundE_len
    generalize hff : (fun (st : List Int) (c : Int) => roundE st offsL c) = f
    have hcall' : ∀ st c, st.length = 25 → ∀ st0 h, opV G st0 h (.call Fn.digest_round) (some [.agg (wd st), .agg (nm offsL), .int .u64 c]) = some (.agg (wd (f st c)), h) := by rw [← hff]; exact hcall
    have hflen' : ∀ st c, (f st c).length = st.length := by rw [← hff]; exact hflen
    clear hcall hflen hff
    generalize offsL = off at cO ho hcall' ⊢
    generalize constL = con at cC hc ⊢
    have l0 := fun ks Q hk => perm_L0 G off f hflen' hcall' st con z ho hc (ks := ks) (Q := Q) con 0 st rfl (by omega) hs hk
    have hm : (permE f st con).length = 25 := by rw [permE_len hflen']; exact hs
    generalize permE f st con = m at l0 hm ⊢
    have b1 := fun st0 h => op_boxed (G := G) (s := st0) (h := h) (v := .agg (wd st)) (by intro e; have := congrArg List.length e; simp [AV.cells, hs] at this)
    have cc1 : (AV.agg (wd st)).cells = wd st := rfl
    simp only [cc1] at b1
    have s1 := st_all (h := [.cells (wd st), .cells (wd z), .cells (nm z)]) (l := 2) (vs := nm z) (us := nm off) rfl (by simpa using hzl) (by simpa using ho) (by omega) (all_one (fun _ => rfl) off)
    have s2 := st_all (h := pm_h m z off) (l := 1) (vs := wd z) (us := wd m) rfl (by simpa using hzl) (by simpa using hm) (by omega) (all_one (fun _ => rfl) m)
    have k1 := cut_whole (vs := wd m) (n := 25) (by simpa using hm)
    have mk1 : mkVal true 25 (wd m) = some (.agg (wd m)) := by simp [mkVal, hm]
    simp only [List.set] at s1 s2
    simp only [Mc.digest_Permute, z25, y25]
    simp [pm_fr] at l0
    simp [frInit, Ks.digest_Permute, b1, cO, cC, s1, -stAV_ptr]
    refine l0 _ _ (fun env => ?_)
    simp [k1, mk1, s2, Rs.digest_Permute, -stAV_ptr]
  · cases h

end Go.Proofs.YtmjdgpiofhildaaGreatDoor
