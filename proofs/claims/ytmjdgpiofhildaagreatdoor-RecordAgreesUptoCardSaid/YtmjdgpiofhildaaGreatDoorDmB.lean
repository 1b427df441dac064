/- Taking in a block. A sponge's copy. A sponge takes in a string. -/
import Derived.Test.YtmjdgpiofhildaaGreatDoorDmA
namespace Go.Proofs.YtmjdgpiofhildaaGreatDoor
open Go.RowKit Go.IntWalk

section
variable {G : Gam} {s : Bool} {h : Heap}
@[simp] theorem op_nilck_ptr {l off : Nat} : opV G s h .nilck (some [.ptr l off]) = some (.ptr l off, h) := by rw [opV_quiet rfl]; rfl
end

theorem set_here {h : Heap} {l : Nat} {b : Blk} (hl : h[l]? = some b) : h.set l b = h := by
  apply List.ext_getElem?
  intro j
  rw [List.getElem?_set]
  by_cases e : l = j
  · subst e
    rw [if_pos rfl, if_pos (List.getElem?_eq_some_iff.1 hl).1, hl]
  · rw [if_neg e]

theorem rem8 (i : Nat) : ∃ x : Nat, x = i % 8 ∧ x < 8 ∧ binAV .rem (.int .i64 i) (.int .i64 8) = some (.int .i64 x) := by
  refine ⟨i % 8, rfl, Nat.mod_lt _ (by decide), ?_⟩
  have e : ((i : Int).tmod 8) = ((i % 8 : Nat) : Int) := by rw [Int.tmod_eq_emod_of_nonneg (by omega)]; omega
  simp only [binAV, intBin]
  simp [e]
theorem quo8 {i : Nat} (hi : i < 1000) : ∃ y : Nat, y = i / 8 ∧ binAV .quo (.int .i64 i) (.int .i64 8) = some (.int .i64 y) := by
  refine ⟨i / 8, rfl, ?_⟩
  have e : ((i : Int).tdiv 8) = ((i / 8 : Nat) : Int) := by rw [Int.tdiv_eq_ediv_of_nonneg (by omega)]; omega
  have e2 : IntKind.i64.wrap ((i / 8 : Nat) : Int) = ((i / 8 : Nat) : Int) := i64_small (by omega) (by omega)
  simp only [binAV, intBin]
  simp only [reduceCtorEq, or_self, if_false, if_true, e, e2]
  simp

/-- A place in a slice, whatever holds it. -/
theorem at_rows {h : Heap} {x : AV} {rows : List (List AV)} {i : Nat} {v : AV} {k : IntKind} (hr : rowsOf h x = some rows) (hv : rows[i]? = some [v]) : ∃ pt, iadrAV 1 h x (.int k i) = some pt ∧ loadAV 1 false h pt = some v := by
  cases x <;> first | (simp [rowsOf] at hr; done) | skip
  case sl rs =>
    simp only [rowsOf, Option.some.injEq] at hr; subst hr
    exact ⟨.fptr [v] 0, by simp [iadrAV, hv], by simp [cut, mkVal]⟩
  case tsl rs =>
    simp only [rowsOf, Option.some.injEq] at hr; subst hr
    exact ⟨.fptr [v] 0, by simp [iadrAV, hv], by simp [cut, mkVal]⟩
  case nils =>
    simp only [rowsOf, Option.some.injEq] at hr; subst hr
    simp at hv
  case own l ver n =>
    simp only [rowsOf] at hr
    split at hr
    · rename_i sz ver' rs wr hl
      split at hr
      · rename_i hc
        obtain ⟨rfl, hn⟩ := hc
        injection hr with hr; subst hr
        have hi := (List.getElem?_eq_some_iff.1 hv).1
        simp only [List.length_take] at hi
        have hv' : rs[i]? = some [v] := by rw [← hv, List.getElem?_take, if_pos (by omega)]
        have hc : (0 : Int) ≤ i ∧ (i : Int) < n := ⟨by omega, by omega⟩
        exact ⟨.eptr l ver i 0, by simp [iadrAV, hl, hn, hc, hv'], by simp [loadAV, hl, hv', cut, mkVal]⟩
      · cases hr
    · cases hr
theorem rows_set {h : Heap} {x : AV} {rows : List (List AV)} {l : Nat} {vs us : List AV} (hr : rowsOf h x = some rows) (hl : h[l]? = some (.cells vs)) : rowsOf (h.set l (.cells us)) x = some rows := by
  cases x <;> first | (simp [rowsOf] at hr; done) | skip
  case own l2 ver n =>
    have hne : l ≠ l2 := fun e => by subst e; simp [rowsOf, hl] at hr
    simp only [rowsOf] at hr ⊢
    rw [List.getElem?_set, if_neg hne]
    exact hr
  all_goals exact hr
theorem len_rows {h : Heap} {x : AV} {rows : List (List AV)} (hr : rowsOf h x = some rows) : lenAV h 1 x = some (.int .i64 rows.length) := by
  cases x <;> first | (simp [rowsOf] at hr; done) | skip
  case own l2 ver n =>
    simp only [rowsOf] at hr
    split at hr
    · split at hr
      · rename_i hc
        injection hr with hr; subst hr
        simp [Nat.min_eq_left hc.2]
      · cases hr
    · cases hr
  all_goals (simp only [rowsOf, Option.some.injEq] at hr; subst hr; rfl)

def byteRows (bs : List Int) : List (List AV) := bs.map fun n => [AV.int .u8 n]
def absE (st : List Int) (i : Nat) : List Int → List Int
  | [] => st
  | b :: r => absE (st.set (i / 8) (xo (st.getD (i / 8) 0) (sl (IntKind.u64.wrap b) (8 * (i % 8 : Nat))))) (i + 1) r
theorem absE_len : ∀ (r st : List Int) (i : Nat), (absE st i r).length = st.length
  | [], _, _ => rfl
  | b :: r, st, i => by rw [absE, absE_len r]; simp

theorem absorb_L0 (G : Gam) (l : Nat) (x : AV) (bs : List Int) (hb : bs.length ≤ 136) (tl : List AV) (N : Nat) {ks : List MK} {Q : MPost} : ∀ (rest : List Int) (i : Nat) (st : List Int) (h : Heap), h.length = N → bs.drop i = rest → i ≤ bs.length → st.length = 25 → h[l]? = some (.cells (wd st ++ tl)) → rowsOf h x = some (byteRows bs) →
    (∀ env, exM G .normal ks Q env [(0, .ptr l 0), (1, x), (4, .junk), (6, .int .i64 bs.length), (7, .int .i64 bs.length)] (h.set l (.cells (wd (absE st i rest) ++ tl)))) →
    headM G [4] Mc.__digest_Sponge__absorb_L0 N (.blk 0 :: ks) Q [(0, .ptr l 0), (1, x), (4, .junk), (6, .int .i64 bs.length), (7, .int .i64 i)] h
  | [], i, st, h, hN, hd, hi, hs, hl, hr, hk => by
    have hi2 := drop_nil hd
    have e : i = bs.length := by omega
    subst e
    have hset : h.set l (.cells (wd (absE st bs.length []) ++ tl)) = h := by
      simp only [absE]
      exact set_here hl
    refine head_go (Mc.__digest_Sponge__absorb_L0.eq_1) ?_
    rw [trunc_len (n := N) hN]
    have := hk
    rw [hset] at this
    simp
    simpa using this _
  | b :: rest, i, st, h, hN, hd, hi, hs, hl, hr, hk => by
    obtain ⟨hi2, hx, hxd⟩ := drop_cons hd
    have hi' : ltB i bs.length = true := ltB_iff.2 (by omega)
    have hw := wrap1 (i := i) (by unfold big; omega)
    obtain ⟨q, hqe, hq⟩ := quo8 (i := i) (by omega)
    obtain ⟨m, hme, hm8, hm⟩ := rem8 i
    simp only [absE, ← hqe, ← hme] at hk
    have w1 : IntKind.i64.wrap (8 * (m : Int)) = 8 * m := i64_small (by omega) (by omega)
    have hq25 : q < 25 := by omega
    obtain ⟨pt, p1, p2⟩ := at_rows (h := h) (x := x) (rows := byteRows bs) (i := i) (v := .int .u8 b) (k := .i64) hr (by simp [byteRows, hx])
    have aa := fun st0 h => op_aadr (G := G) (s := st0) (h := h) (len := 25) (size := 1) (l := l) (off := 0) (i := q) (k := .i64) hq25 (by decide)
    have cc := ld_cell (h := h) (l := l) hl (vs := wd st ++ tl) (off := q) (v := .int .u64 (st.getD q 0)) (by rw [List.getElem?_append_left (by simp; omega)]; exact get_wd (by omega))
    have sc := fun v => st_cell (h := h) (l := l) (off := q) (vs := wd st ++ tl) (k := .u64) (n := v) hl (by simp; omega)
    have es : ∀ v, (wd st ++ tl).set q (.int .u64 v) = wd (st.set q v) ++ tl := fun v => by rw [List.set_append_left _ _ (by simp; omega), set_wd]
    simp only [es] at sc
    have hs2 := bin_sl (a := IntKind.u64.wrap b) (b := 8 * (m : Int)) (k := .i64) (by omega)
    have ih := absorb_L0 G l x bs hb tl N rest (i + 1) (st.set q (xo (st.getD q 0) (sl (IntKind.u64.wrap b) (8 * (m : Int))))) (h.set l (.cells (wd (st.set q (xo (st.getD q 0) (sl (IntKind.u64.wrap b) (8 * (m : Int))))) ++ tl))) (by simpa using hN) hxd (by omega) (by simpa using hs) (by rw [List.getElem?_set, if_pos rfl, if_pos (List.getElem?_eq_some_iff.1 hl).1]) (rows_set hr hl) (by simpa [List.set_set] using hk)
    generalize st.getD q 0 = v0 at cc ih
    simp only [Nat.zero_add, Nat.mul_one] at aa
    refine head_go (Mc.__digest_Sponge__absorb_L0.eq_1) ?_
    rw [trunc_len (n := N) hN]
    simp [hi', hq, hm, w1, aa, hl, cc, p1, p2, hs2, sc, hw, -stAV_ptr, -loadAV]
    refine head_of ?_
    rw [trunc_len (n := N) (by simpa using hN)]
    simpa [wd] using ih

def F_absorb (args : List AV) (h : Heap) : Option (AV × Heap) :=
  match args with
  | [.ptr l 0, x] => match h[l]?, rowsOf h x with
    | some (.cells vs), some rows => match decK .u64 (vs.take 25), decRows (rOne (eKind .u8)).dec rows with
      | some st, some bs => if st.length = 25 ∧ bs.length ≤ 136 then some (.tup [], h.set l (.cells (wd (permE (fun st c => roundE st offsL c) (absE st 0 bs) constL) ++ vs.drop 25))) else none
      | _, _ => none
    | _, _ => none
  | _ => none
theorem permute_call {G : Gam} (hP : G Fn.digest_Permute = some (.pure F_Permute)) {st : List Int} (hs : st.length = 25) (st0 : Bool) (h : Heap) : opV G st0 h (.call Fn.digest_Permute) (some [.agg (wd st)]) = some (.agg (wd (permE (fun st c => roundE st offsL c) st constL)), h) := by
  have hu := F1_use (A := eAgg rW) (R := eAgg rW) (f := fun st => if st.length = 25 then some (permE (fun st c => roundE st offsL c) st constL) else none) (x := st) (r := permE (fun st c => roundE st offsL c) st constL) (if_pos hs)
  generalize permE (fun st c => roundE st offsL c) st constL = r at hu ⊢
  exact op_call hP (us := [.agg (wd st)]) (by simp) hu (.inr (by simp [owns, ownsL]))
theorem byte_rows (bs : List Int) : bs.map (rOne (eKind .u8)).enc = byteRows bs := rfl
theorem absorb_ok (G : Gam) (hP : G Fn.digest_Permute = some (.pure F_Permute)) : ∀ args h r h', F_absorb args h = some (r, h') → wpM G Mc.__digest_Sponge__absorb (genQ Rs.__digest_Sponge__absorb r h') [] (frInit Ks.__digest_Sponge__absorb args) h := by
  intro args h r h' he
  unfold F_absorb at he
  split at he
  · rename_i l x
    split at he
    · rename_i vs rows hl hr
      split at he
      · rename_i st bs hd1 hd2
        split at he
        · rename_i hc
          obtain ⟨hs, hb⟩ := hc
          have hpc := fun st0 h => permute_call hP (st := absE st 0 bs) (by rw [absE_len]; exact hs) st0 h
          have hpl : (permE (fun st c => roundE st offsL c) (absE st 0 bs) constL).length = 25 := by rw [permE_len (fun st c => roundE_len), absE_len]; exact hs
          generalize permE (fun st c => roundE st offsL c) (absE st 0 bs) constL = p at he hpc hpl
          injection he with he; injection he with h1 h2; subst h1 h2
          have e1 := decK_ed _ hd1
          have e2 : vs = wd st ++ vs.drop 25 := by
            show vs = st.map (AV.int .u64) ++ vs.drop 25
            rw [← e1]; exact (List.take_append_drop 25 vs).symm
          have e3 := decRows_ed (rOne (eKind .u8)) hd2
          rw [byte_rows] at e3
          subst e3
          generalize vs.drop 25 = tl at e2 ⊢
          subst e2
          have hll := (List.getElem?_eq_some_iff.1 hl).1
          have hml : (absE st 0 bs).length = 25 := by rw [absE_len]; exact hs
          have l0 := fun ks Q hk => absorb_L0 G l x bs hb tl h.length (ks := ks) (Q := Q) bs 0 st h rfl rfl (by omega) hs hl hr hk
          generalize absE st 0 bs = m at l0 hpc hml
          have hl2 : (h.set l (.cells (wd m ++ tl)))[l]? = some (.cells (wd m ++ tl)) := by rw [List.getElem?_set, if_pos rfl, if_pos hll]
          have ld : loadAV 25 true (h.set l (.cells (wd m ++ tl))) (.ptr l 0) = some (.agg (wd m)) := by
            have hc : cut (wd m ++ tl) 0 25 = wd m := by
              unfold cut; rw [List.drop_zero, List.take_left' (by simpa using hml)]
            simp only [loadAV, hl2, hc, mkVal]
            simp [hml]
          have st1 : stAV 25 (h.set l (.cells (wd m ++ tl))) (.ptr l 0) (.agg (wd p)) = some (h.set l (.cells (wd p ++ tl))) := by
            have hcs : (AV.agg (wd p)).cells = wd p := rfl
            have hsp : setAt (wd m ++ tl) 0 (wd p) = wd p ++ tl := by
              rw [setAt_splice _ _ _ (by simp; omega), List.take_zero, List.nil_append]
              congr 1
              rw [Nat.zero_add, List.length_map, hpl, List.drop_left' (by simpa using hml)]
            simp only [stAV, hcs, hl2, hsp]
            rw [if_pos ⟨by simpa using hpl, by omega, all_one (fun _ => rfl) p⟩, if_pos (by simp; omega), List.set_set]
          have hlen := len_rows hr
          have hbl : (byteRows bs).length = bs.length := by simp [byteRows]
          rw [hbl] at hlen
          rw [wpM_go]
          simp at l0
          simp [Mc.__digest_Sponge__absorb, frInit, Ks.__digest_Sponge__absorb, hlen, -lenAV]
          refine l0 _ _ (fun env => ?_)
          simp [ld, hpc, st1, genQ, Rs.__digest_Sponge__absorb, -loadAV, -stAV_ptr]
        · cases he
      · cases he
    · cases he
  · cases he

end Go.Proofs.YtmjdgpiofhildaaGreatDoor

namespace Go.Proofs.YtmjdgpiofhildaaGreatDoor
open Go.RowKit Go.IntWalk

theorem rows_more {h : Heap} {x : AV} {rows : List (List AV)} (hr : rowsOf h x = some rows) (t : Heap) : rowsOf (h ++ t) x = some rows := by
  cases x <;> first | (simp [rowsOf] at hr; done) | skip
  case own l2 ver n =>
    have hl : l2 < h.length := by
      rcases Nat.lt_or_ge l2 h.length with g | g
      · exact g
      · simp [rowsOf, List.getElem?_eq_none g] at hr
    simp only [rowsOf] at hr ⊢
    rw [List.getElem?_append_left hl]
    exact hr
  all_goals exact hr
theorem op_app_nils {G : Gam} {s : Bool} {h : Heap} {b : Nat} {x : AV} {rows : List (List AV)} (hx : rowsOf h x = some rows) (hs : sizesOk 1 rows = true) (h1 : rows.length * b ≤ byteMax) (h2 : rows.length ≤ byteMax) :
    opV G s h (.app false 1 b) (some [.nils, x]) = some (if rows = [] then (.nils, h) else (.own h.length 0 rows.length, h ++ [.arr 1 0 rows true])) := by
  rw [opV_eff rfl]
  simp only [evalEff, appRows, Bool.false_eq_true, if_false, hx, hs, if_true, appAV]
  split
  · rfl
  · rw [if_pos ⟨h1, h2⟩]

def F_Clone (args : List AV) (h : Heap) : Option (AV × Heap) :=
  match args with
  | [.ptr l 0] => match h[l]? with
    | some (.cells vs) => match vs[25]? with
      | some rv => match rowsOf h rv with
        | some rows => if vs.length = 54 ∧ vs.all oneC = true ∧ sizesOk 1 rows = true ∧ rows.length ≤ byteMax then
            some (.ptr h.length 0, if rows = [] then h ++ [.cells (vs.set 25 .nils)] else h ++ [.cells (vs.set 25 (.own (h.length + 1) 0 rows.length)), .arr 1 0 rows true]) else none
        | none => none
      | none => none
    | _ => none
  | _ => none
theorem Clone_ok (G : Gam) : ∀ args h r h', F_Clone args h = some (r, h') → wpM G Mc.__digest_Sponge__Clone (genQ Rs.__digest_Sponge__Clone r h') [] (frInit Ks.__digest_Sponge__Clone args) h := by
  intro args h r h' he
  unfold F_Clone at he
  split at he
  · rename_i l
    split at he
    · rename_i vs hl
      split at he
      · rename_i rv hv
        split at he
        · rename_i rows hr
          split at he
          · rename_i hc
            obtain ⟨c1, c2, c3, c4⟩ := hc
            injection he with he; injection he with h1 h2; subst h1
            have hll := (List.getElem?_eq_some_iff.1 hl).1
            have ld0 : loadAV 54 true h (.ptr l 0) = some (.agg vs) := ld_all hl c1
            have st1 : ∀ Z : List AV, Z.length = 54 → stAV 54 (h ++ [.cells Z]) (.ptr h.length 0) (.agg vs) = some (h ++ [.cells vs]) := fun Z hZ => by
              rw [st_all (l := h.length) (vs := Z) (by simp) hZ c1 (by omega) c2]; simp
            have hl2 : ∀ t : Heap, (h ++ t)[l]? = some (.cells vs) := fun t => by rw [List.getElem?_append_left hll]; exact hl
            have ld1 : loadAV 1 false (h ++ [.cells vs]) (.ptr l 25) = some rv := ld_cell (hl2 _) hv
            have ap := fun st0 => op_app_nils (G := G) (s := st0) (b := 1) (rows_more hr [.cells vs]) c3 (by omega) c4
            rw [wpM_go]
            by_cases e : rows = []
            · rw [if_pos e] at h2; subst h2
              simp only [e, if_true] at ap
              have st2 : stAV 1 (h ++ [.cells vs]) (.ptr h.length 25) .nils = some (h ++ [.cells (vs.set 25 .nils)]) := by
                simp [AV.cells, oneC, setAt, c1]
              simp [Mc.__digest_Sponge__Clone, frInit, Ks.__digest_Sponge__Clone, ld0, st1, ld1, ap, st2, genQ, Rs.__digest_Sponge__Clone, -loadAV, -stAV_ptr]
            · rw [if_neg e] at h2; subst h2
              simp only [e, if_false] at ap
              have st2 : stAV 1 (h ++ [.cells vs, .arr 1 0 rows true]) (.ptr h.length 25) (.own (h.length + 1) 0 rows.length) = some (h ++ [.cells (vs.set 25 (.own (h.length + 1) 0 rows.length)), .arr 1 0 rows true]) := by
                simp [AV.cells, oneC, setAt, c1]
              simp [Mc.__digest_Sponge__Clone, frInit, Ks.__digest_Sponge__Clone, ld0, st1, ld1, ap, st2, genQ, Rs.__digest_Sponge__Clone, -loadAV, -stAV_ptr]
          · cases he
        · cases he
      · cases he
    · cases he
  · cases he

/-- A sponge that has taken in nothing. -/
def newS : List AV := [.int .u64 0, .int .u64 0, .int .u64 0, .int .u64 0, .int .u64 0, .int .u64 0, .int .u64 0, .int .u64 0, .int .u64 0, .int .u64 0, .int .u64 0, .int .u64 0, .int .u64 0, .int .u64 0, .int .u64 0, .int .u64 0, .int .u64 0, .int .u64 0, .int .u64 0, .int .u64 0, .int .u64 0, .int .u64 0, .int .u64 0, .int .u64 0, .int .u64 0, .nils, .int .i64 0, .int .u64 0, .int .u64 0, .int .u64 0, .int .u64 0, .int .u64 0, .int .u64 0, .int .u64 0, .int .u64 0, .int .u64 0, .int .u64 0, .int .u64 0, .int .u64 0, .int .u64 0, .int .u64 0, .int .u64 0, .int .u64 0, .int .u64 0, .int .u64 0, .int .u64 0, .int .u64 0, .int .u64 0, .int .u64 0, .int .u64 0, .int .u64 0, .int .u64 0, .str [], .str []]
theorem newS_len : newS.length = 54 := rfl
def F_New (args : List AV) (h : Heap) : Option (AV × Heap) :=
  match args with
  | [] => some (.ptr h.length 0, h ++ [.cells newS])
  | _ => none
theorem New_ok (G : Gam) : ∀ args h r h', F_New args h = some (r, h') → wpM G Mc.digest_New (genQ Rs.digest_New r h') [] (frInit Ks.digest_New args) h := by
  intro args h r h' he
  unfold F_New at he
  split at he
  · injection he with he; injection he with h1 h2; subst h1 h2
    rw [wpM_go]
    simp [Mc.digest_New, frInit, Ks.digest_New, bldAV, genQ, Rs.digest_New]
    rfl
  · cases he

end Go.Proofs.YtmjdgpiofhildaaGreatDoor

namespace Go.Proofs.YtmjdgpiofhildaaGreatDoor
open Go.RowKit Go.IntWalk

/-- A sponge's cells. -/
abbrev sp (st : List Int) (rest : AV) (tk : Int) (T : List AV) : List AV := wd st ++ rest :: .int .i64 tk :: T

section
variable {st : List Int} {rest : AV} {tk : Int} {T : List AV}
theorem sp_25 (hs : st.length = 25) : (sp st rest tk T)[25]? = some rest := by
  rw [List.getElem?_append_right (by simp [hs])]; simp [hs]
theorem sp_26 (hs : st.length = 25) : (sp st rest tk T)[26]? = some (.int .i64 tk) := by
  rw [List.getElem?_append_right (by simp [hs])]; simp [hs]
theorem sp_set25 (hs : st.length = 25) (r : AV) : (sp st rest tk T).set 25 r = sp st r tk T := by
  rw [List.set_append_right _ _ (by simp [hs])]; simp [hs]
theorem sp_set26 (hs : st.length = 25) (n : Int) : (sp st rest tk T).set 26 (.int .i64 n) = sp st rest n T := by
  rw [List.set_append_right _ _ (by simp [hs])]; simp [hs]
theorem sp_take (hs : st.length = 25) : (sp st rest tk T).take 25 = wd st := by rw [List.take_left' (by simpa using hs)]
theorem sp_drop (hs : st.length = 25) : (sp st rest tk T).drop 25 = rest :: .int .i64 tk :: T := by rw [List.drop_left' (by simpa using hs)]
theorem sp_len (hs : st.length = 25) : (sp st rest tk T).length = 27 + T.length := by simp [hs]; omega
end

theorem stAV_cell {h : Heap} {l off : Nat} {vs : List AV} {v : AV} (hl : h[l]? = some (.cells vs)) (ho : off < vs.length) (hc : v.cells = [v]) (h1 : oneC v = true) : stAV 1 h (.ptr l off) v = some (h.set l (.cells (vs.set off v))) := by
  simp [hl, hc, h1, setAt, show off + 1 ≤ vs.length by omega]

def stepS (st : List Int) (bs : List Int) : List Int := permE (fun st c => roundE st offsL c) (absE st 0 (bs.take 136)) constL
theorem stepS_len {st bs : List Int} : (stepS st bs).length = st.length := by unfold stepS; rw [permE_len (fun st c => roundE_len), absE_len]

/-- The sponge and what it has left behind. -/
def hold (st : List Int) (tk : Int) (T : List AV) (bs : List Int) (os : List (List (List AV))) : Heap :=
  if bs = [] then .cells (sp st .nils tk T) :: os.map (fun r => .arr 1 0 r false)
  else .cells (sp st (.own (1 + os.length) 0 bs.length) tk T) :: (os.map (fun r => Blk.arr 1 0 r false) ++ [.arr 1 0 (byteRows bs) true])

theorem lowH_arrs (n : Nat) : ∀ os : List (List (List AV)), lowH n (os.map fun r => Blk.arr 1 0 r false) = true
  | [] => rfl
  | o :: os => by simp [lowH, lowB, lowH_arrs n os]
theorem lowL_app (n : Nat) : ∀ (a b : List AV), lowL n (a ++ b) = (lowL n a && lowL n b)
  | [], b => by simp [lowL]
  | x :: a, b => by simp [lowL, lowL_app n a b, Bool.and_assoc]
theorem lowL_wd (n : Nat) : ∀ st : List Int, lowL n (wd st) = true
  | [] => rfl
  | x :: st => by simp [lowL, low]; exact lowL_wd n st

def wfr (x : AV) (e6 : AV) (i : Int) : List (Nat × AV) := [(0, .ptr 0 0), (1, x), (4, .int .i64 0), (6, e6), (7, x), (8, .int .i64 1), (9, .int .i64 i)]

theorem hold_trunc {n : Nat} (hn : 1 ≤ n) (hn2 : n ≤ 2) (fr : List (Nat × AV)) {st : List Int} {tk : Int} {T : List AV} {bs : List Int} {os : List (List (List AV))} (hb : bs ≠ []) (ho : n = 2 ∨ os = [] ∨ True) (hlen : n ≤ 1 + os.length ∨ (hold st tk T bs os).length = n) : trunc n fr (hold st tk T bs os) = hold st tk T bs os := by
  rcases hlen with hlen | hlen
  · unfold trunc
    have : lowH n ((hold st tk T bs os).take n) = false := by
      obtain ⟨m, rfl⟩ : ∃ m, n = m + 1 := ⟨n - 1, by omega⟩
      simp only [hold, if_neg hb, List.take_succ_cons, lowH, lowB, lowL_app, lowL, low]
      have : ¬ (1 + os.length < m + 1) := by omega
      simp [this]
    rw [this]; simp
  · exact trunc_len hlen

/-- What is left when no block is whole any more. -/
def wrRun : Nat → List Int → List Int → List (List (List AV)) → List Int × List Int × List (List (List AV))
  | 0, st, bs, os => (st, bs, os)
  | N + 1, st, bs, os => if bs.length < 136 then (st, bs, os) else wrRun N (stepS st bs) (bs.drop 136) (os ++ [byteRows bs])

theorem wr_L1 (G : Gam) (hA : G Fn.__digest_Sponge__absorb = some (.gen F_absorb)) (x e6 : AV) (tk : Int) (T : List AV) {ks : List MK} {Q : MPost} : ∀ (N : Nat) (st bs : List Int) (os : List (List (List AV))), bs.length < 136 * (N + 1) → bs.length ≤ big → st.length = 25 → (bs = [] → os ≠ []) →
    (∀ env, exM G .normal ks Q env (wfr x e6 0) (trunc 2 (wfr x e6 0) (hold (wrRun N st bs os).1 tk T (wrRun N st bs os).2.1 (wrRun N st bs os).2.2))) →
    headM G [] Mc.__digest_Sponge__Write_L1 2 (.blk 2 :: ks) Q (wfr x e6 0) (hold st tk T bs os)
  | N, st, bs, os, hN, hbig, hs, ho, hk => by
    by_cases hlt : bs.length < 136
    · -- done
      have hrun : wrRun N st bs os = (st, bs, os) := by cases N <;> simp [wrRun, hlt]
      rw [hrun] at hk
      refine head_go (Mc.__digest_Sponge__Write_L1.eq_1) ?_
      have hj : junkAll [] (wfr x e6 0) = wfr x e6 0 := by simp [wfr, junkAll]
      rw [hj]
      generalize hhh : trunc 2 (wfr x e6 0) (hold st tk T bs os) = hh at hk
      have h0 : ∃ rv, hh[0]? = some (.cells (sp st rv tk T)) ∧ lenAV hh 1 rv = some (.int .i64 bs.length) := by
        by_cases hb : bs = []
        · subst hb
          refine ⟨.nils, ?_, rfl⟩
          rw [← hhh]
          unfold trunc
          split
          · rw [List.getElem?_take, if_pos (by omega)]; simp [hold]
          · simp [hold]
        · have ht : trunc 2 (wfr x e6 0) (hold st tk T bs os) = hold st tk T bs os := by
            refine hold_trunc (by omega) (by omega) _ hb (.inl rfl) ?_
            cases os with
            | nil => right; simp [hold, hb]
            | cons o os => left; simp; omega
          rw [← hhh, ht]
          refine ⟨.own (1 + os.length) 0 bs.length, by simp [hold, hb], ?_⟩
          have hL : (hold st tk T bs os)[1 + os.length]? = some (.arr 1 0 (byteRows bs) true) := by
            simp only [hold, if_neg hb]
            rw [Nat.add_comm, List.getElem?_cons_succ, List.getElem?_append_right (by simp)]
            simp
          simp
      obtain ⟨rv, g1, g2⟩ := h0
      have ld := ld_cell g1 (sp_25 hs)
      have hc : ltB bs.length 136 = true := ltB_iff.2 (by omega)
      have hk' := hk
      simp only [wfr] at hk' ⊢
      simp [ld, g2, sc_geq, hc, -loadAV, -lenAV]
      simpa using hk' _
    · -- a block
      cases N with
      | zero => omega
      | succ N =>
        have hb : bs ≠ [] := fun e => by subst e; simp at hlt
        have ht : trunc 2 (wfr x e6 0) (hold st tk T bs os) = hold st tk T bs os := by
          refine hold_trunc (by omega) (by omega) _ hb (.inl rfl) ?_
          cases os with
          | nil => right; simp [hold, hb]
          | cons o os => left; simp; omega
        have hrun : wrRun (N + 1) st bs os = wrRun N (stepS st bs) (bs.drop 136) (os ++ [byteRows bs]) := by simp [wrRun, hlt]
        rw [hrun] at hk
        have hs2 : (stepS st bs).length = 25 := by rw [stepS_len]; exact hs
        have ih := wr_L1 G hA x e6 tk T (ks := ks) (Q := Q) N (stepS st bs) (bs.drop 136) (os ++ [byteRows bs]) (by simp; omega) (by simp; omega) hs2 (fun _ => by simp) hk
        obtain ⟨hh, hhh⟩ : ∃ hh, hh = hold st tk T bs os := ⟨_, rfl⟩
        have hlen : hh.length = 2 + os.length := by rw [hhh]; simp [hold, hb]; omega
        have g0 : hh[0]? = some (.cells (sp st (.own (1 + os.length) 0 bs.length) tk T)) := by rw [hhh]; simp [hold, hb]
        have g1 : hh[1 + os.length]? = some (.arr 1 0 (byteRows bs) true) := by
          rw [hhh]
          simp only [hold, if_neg hb]
          rw [Nat.add_comm, List.getElem?_cons_succ, List.getElem?_append_right (by simp)]
          simp
        have hbl : (byteRows bs).length = bs.length := by simp [byteRows]
        have hsz : ∀ l : List Int, sizesOk 1 (byteRows l) = true := fun l => by
          induction l with
          | nil => rfl
          | cons a l ih => simpa [byteRows, sizesOk] using ih
        have ld := ld_cell g0 (sp_25 hs)
        have hc : ltB bs.length 136 = false := ltB_not.2 (by omega)
        have sl1 : ∀ st0, opV G st0 hh (.slcf 1 false true false) (some [.own (1 + os.length) 0 bs.length, .int .i64 136]) = some (.own (1 + os.length) 0 136, hh) := fun st0 => by
          have h136 : (136 : Int) ≤ bs.length := by omega
          cases st0 <;> simp [opV, AO.loud, evalStill, evalAO, AO.quiet, evalEff, slcArgs, slc1, slcOwn, slcPre, h136]
        have hr1 : rowsOf hh (.own (1 + os.length) 0 136) = some (byteRows (bs.take 136)) := by
          have h136 : 136 ≤ bs.length := by omega
          simp [rowsOf, g1, h136, byteRows]
        have cA : F_absorb [.ptr 0 0, .own (1 + os.length) 0 136] hh = some (.tup [], hh.set 0 (.cells (sp (stepS st bs) (.own (1 + os.length) 0 bs.length) tk T))) := by
          have e1 : decRows (rOne (eKind .u8)).dec (byteRows (bs.take 136)) = some (bs.take 136) := decRows_de (rOne (eKind .u8)) _
          have e2 : (bs.take 136).length ≤ 136 := by simp; omega
          simp only [F_absorb, g0, hr1, sp_take hs, decK_de, e1, sp_drop hs]
          rw [if_pos ⟨hs, e2⟩]
          rfl
        have cA' : opV G false hh (.call Fn.__digest_Sponge__absorb) (some [.ptr 0 0, .own (1 + os.length) 0 136]) = some (.tup [], hh.set 0 (.cells (sp (stepS st bs) (.own (1 + os.length) 0 bs.length) tk T))) := by
          rw [op_call_gen hA]; exact cA
        obtain ⟨h1, hh1⟩ : ∃ h1, h1 = hh.set 0 (.cells (sp (stepS st bs) (.own (1 + os.length) 0 bs.length) tk T)) := ⟨_, rfl⟩
        rw [← hh1] at cA'
        have q0 : h1[0]? = some (.cells (sp (stepS st bs) (.own (1 + os.length) 0 bs.length) tk T)) := by rw [hh1, List.getElem?_set_self (by omega)]
        have q1 : h1[1 + os.length]? = some (.arr 1 0 (byteRows bs) true) := by rw [hh1, List.getElem?_set_ne (by omega)]; exact g1
        have ld2 := ld_cell q0 (sp_25 hs2)
        have sl2 : opV G false h1 (.slcf 1 true false false) (some [.own (1 + os.length) 0 bs.length, .int .i64 136]) = some (.sl (byteRows (bs.drop 136)), h1.set (1 + os.length) (.arr 1 0 (byteRows bs) false)) := by
          have e1 : frz h1 (.own (1 + os.length) 0 bs.length) = some (.sl (byteRows bs), h1.set (1 + os.length) (.arr 1 0 (byteRows bs) false)) := by
            have : bs.length ≤ (byteRows bs).length := by omega
            simp [frz, view, rowsOf, q1, this, owns, freezeAll, freeze1, hbl, List.take_of_length_le]
          have e2 : slcRows 1 (byteRows bs) (some 136) none none = some (.sl (byteRows (bs.drop 136))) := by
            have h136 : (136 : Int) ≤ bs.length := by omega
            have d1 : (byteRows bs).drop 136 = byteRows (bs.drop 136) := by simp [byteRows]
            have t1 : (byteRows bs).take bs.length = byteRows bs := List.take_of_length_le (by omega)
            simp [slcRows, hsz, hbl, h136, d1, t1]
          simp [opV, AO.loud, evalAO, AO.quiet, evalEff, slcArgs, slc1, slcOwn, slcPre, e1, e2]
        obtain ⟨h2, hh2⟩ : ∃ h2, h2 = h1.set (1 + os.length) (.arr 1 0 (byteRows bs) false) := ⟨_, rfl⟩
        rw [← hh2] at sl2
        have r0 : h2[0]? = some (.cells (sp (stepS st bs) (.own (1 + os.length) 0 bs.length) tk T)) := by rw [hh2, List.getElem?_set_ne (by omega)]; exact q0
        have hl2 : h2.length = 2 + os.length := by rw [hh2, hh1]; simp [hlen]
        have hh2' : h2 = .cells (sp (stepS st bs) (.own (1 + os.length) 0 bs.length) tk T) :: (os.map (fun r => Blk.arr 1 0 r false) ++ [.arr 1 0 (byteRows bs) false]) := by
          rw [hh2, hh1, hhh]
          simp only [hold, if_neg hb, List.set_cons_zero]
          rw [Nat.add_comm, List.set_cons_succ, List.set_append_right _ _ (by simp)]
          simp
        have ap := fun st0 => op_app_nils (G := G) (s := st0) (h := h2) (b := 1) (x := .sl (byteRows (bs.drop 136))) (rows := byteRows (bs.drop 136)) rfl (hsz _) (by simp [byteRows]; unfold big at hbig; unfold byteMax; omega) (by simp [byteRows]; unfold big at hbig; unfold byteMax; omega)
        refine head_go (Mc.__digest_Sponge__Write_L1.eq_1) ?_
        have hj : junkAll [] (wfr x e6 0) = wfr x e6 0 := by simp [wfr, junkAll]
        rw [hj, ht, ← hhh]
        simp only [wfr] at ih ⊢
        by_cases hd : bs.drop 136 = []
        · have hd' : byteRows (bs.drop 136) = [] := by rw [hd]; rfl
          simp only [hd', if_true] at ap sl2
          have stc := stAV_cell r0 (off := 25) (v := .nils) (by rw [sp_len hs2]; omega) rfl rfl
          rw [sp_set25 hs2] at stc
          have hfin : h2.set 0 (.cells (sp (stepS st bs) .nils tk T)) = hold (stepS st bs) tk T (bs.drop 136) (os ++ [byteRows bs]) := by
            rw [hh2']; simp [hold, hd]
          rw [hfin] at stc
          simp [ld, sc_geq, hc, sl1, cA', ld2, sl2, ap, stc, -loadAV, -stAV_ptr]
          simpa using ih
        · have hd' : byteRows (bs.drop 136) ≠ [] := fun e => hd (List.map_eq_nil_iff.1 e)
          simp only [hd', if_false] at ap
          have hln : (byteRows (bs.drop 136)).length = (bs.drop 136).length := by simp [byteRows]
          have stc := stAV_cell (h := h2 ++ [.arr 1 0 (byteRows (bs.drop 136)) true]) (l := 0) (vs := sp (stepS st bs) (.own (1 + os.length) 0 bs.length) tk T) (by rw [List.getElem?_append_left (by omega)]; exact r0) (off := 25) (v := .own h2.length 0 (byteRows (bs.drop 136)).length) (by rw [sp_len hs2]; omega) rfl rfl
          rw [sp_set25 hs2] at stc
          have hfin : (h2 ++ [Blk.arr 1 0 (byteRows (bs.drop 136)) true]).set 0 (.cells (sp (stepS st bs) (.own h2.length 0 (byteRows (bs.drop 136)).length) tk T)) = hold (stepS st bs) tk T (bs.drop 136) (os ++ [byteRows bs]) := by
            rw [hl2, hln, hh2']
            simp only [hold, if_neg hd, List.length_append, List.length_map, List.length_singleton]
            rw [show 1 + (os.length + 1) = 2 + os.length by omega]
            simp
          rw [hfin] at stc
          simp [ld, sc_geq, hc, sl1, cA', ld2, sl2, ap, stc, -loadAV, -stAV_ptr]
          simpa using ih

end Go.Proofs.YtmjdgpiofhildaaGreatDoor
