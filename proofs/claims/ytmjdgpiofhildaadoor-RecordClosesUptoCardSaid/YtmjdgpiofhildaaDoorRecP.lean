/- Paths: tree.part, tree.Path, and the reference's. -/
import Derived.Test.YtmjdgpiofhildaaDoorRecB
namespace Go.Proofs.YtmjdgpiofhildaaDoor
open Go.RowKit Go.IntWalk

def partOK : Bs → Bool
  | [] => false
  | c :: r => !ltB 32 ((c :: r).length : Nat) && !eqB c.toNat 46 && !eqB c.toNat 45 && (c :: r).all fun b => pch b.toNat

theorem decode_lo {s : Bs} {i : Nat} {b : UInt8} (hb : s[i]? = some b) (h : b.toNat < 128) : Utf8.decode ⟨s.toArray⟩ i = (b.toNat, 1) := by
  have hg : (ByteArray.get! ⟨s.toArray⟩ i) = b := by
    show s.toArray[i]! = b
    simp [getElem!_def, hb]
  unfold Utf8.decode
  simp [hg, h]
theorem decode_hi {s : Bs} {i : Nat} {b : UInt8} (hb : s[i]? = some b) (h : 128 ≤ b.toNat) : 128 ≤ (Utf8.decode ⟨s.toArray⟩ i).1 := by
  have hg : (ByteArray.get! ⟨s.toArray⟩ (i + 0)) = b := by
    show s.toArray[i]! = b
    simp [getElem!_def, hb]
  unfold Utf8.decode
  have h' : ¬ b.toNat < 128 := by omega
  simp only [hg, h', if_false]
  split
  · split
    · simpa using ‹_›
    · decide
  · split
    · split
      · rename_i h3; simp at h3; simp; omega
      · decide
    · split
      · split
        · rename_i h3; simp at h3; simp; omega
        · decide
      · decide
theorem pch_hi {n : Int} (h : 128 ≤ n) : pch n = false := by
  have a1 : ltB 122 n = true := ltB_iff.2 (by omega)
  have a2 : ltB 57 n = true := ltB_iff.2 (by omega)
  have a3 : eqB n 46 = false := eqB_not.2 (by omega)
  have a4 : eqB n 95 = false := eqB_not.2 (by omega)
  have a5 : eqB n 45 = false := eqB_not.2 (by omega)
  simp [pch, a1, a2, a3, a4, a5]

theorem runes_part {G : Gam} (hG : G Fn.tree_part_1 = some (.pure F_part1)) (h : Heap) (s : Bs) : ∀ (n pos : Nat), s.length - pos < n → ∃ v, runesA G h Fn.tree_part_1 [] true s n pos = some v ∧ ltB v 0 = (s.drop pos).all fun b => pch b.toNat
  | 0, pos, hn => by omega
  | n + 1, pos, hn => by
    have hask : ∀ h (x : Int), ask G h Fn.tree_part_1 [] (.int .i32 x) = some (!pch x) := fun h x => ask_of (call_pure hG rfl (F1_use (A := eKind .i32) (R := eBool) (x := x) rfl) rfl)
    simp only [runesA, hask]
    by_cases hp : pos < s.length
    · obtain ⟨b, hb, hd⟩ := drop_head hp
      simp only [hp, if_true, hd, List.all_cons]
      rcases Nat.lt_or_ge b.toNat 128 with hlo | hhi
      · rw [decode_lo hb hlo]
        cases hpc : pch b.toNat with
        | true =>
          simp only [hpc, Bool.not_true, Bool.false_eq_true, if_false, Bool.true_and]
          exact runes_part hG h s n (pos + 1) (by omega)
        | false => exact ⟨pos, by simp [hpc], by simp [ltB_not]⟩
      · have h1 := pch_hi (n := (Utf8.decode ⟨s.toArray⟩ pos).1) (by have := decode_hi hb hhi; omega)
        have h2 := pch_hi (n := b.toNat) (by omega)
        exact ⟨pos, by simp [h1], by simp [h2, ltB_not]⟩
    · have : s.drop pos = [] := by rw [List.drop_eq_nil_iff]; omega
      exact ⟨-1, by simp [hp], by rw [this]; rfl⟩

def F_part : List AV → Option AV := F1 eStr eBool fun s => some (partOK s)
theorem part_ok (G G0 : Gam) (hG : G Fn.strings_ContainsFunc = some (.gen (lookF (F_strContainsFunc G0)))) (hG0 : G0 Fn.tree_part_1 = some (.pure F_part1)) : ∀ args r, F_part args = some r → wpM G Mc.tree_part (pureQ Rs.tree_part r) [] (frInit Ks.tree_part args) [] := F1_ok fun s r h => by
  injection h with h; subst h
  rw [wpM_go]
  cases s with
  | nil => simp [Mc.tree_part, frInit, Ks.tree_part, Rs.tree_part, eStr, eBool, partOK]
  | cons c r =>
    obtain ⟨v, hv, hl⟩ := runes_part hG0 [] (c :: r) ((c :: r).length + 1) 0 (by omega)
    have hc : opV G false [] (.call Fn.strings_ContainsFunc) (some [.str (c :: r), .fn Fn.tree_part_1 []]) = some (.bool (!ltB v 0), []) := by rw [op_call_gen hG]; simp only [lookF, F_strContainsFunc, hv]; rfl
    rw [List.drop_zero] at hl
    cases c1 : ltB 32 ((r.length : Int) + 1) <;> cases c2 : eqB (c.toNat : Int) 46 <;> cases c3 : eqB (c.toNat : Int) 45 <;>
      simp [Mc.tree_part, frInit, Ks.tree_part, Rs.tree_part, eStr, eBool, partOK, hc, hl, -List.all_cons, c1, c2, c3]

def F_Path1 : List AV → Option AV := F1 eStr eBool fun s => some (!partOK s)
theorem Path1_ok (G : Gam) (hG : G Fn.tree_part = some (.pure F_part)) : ∀ args r, F_Path1 args = some r → wpM G Mc.tree_Path_1 (pureQ Rs.tree_Path_1 r) [] (frInit Ks.tree_Path_1 args) [] := F1_ok fun s r h => by
  injection h with h; subst h
  rw [wpM_go]
  have hc : ∀ st h, opV G st h (.call Fn.tree_part) (some [.str s]) = some (.bool (partOK s), h) := fun st h => op_call hG rfl (F1_use (A := eStr) (R := eBool) (x := s) rfl) (.inl rfl)
  simp [Mc.tree_Path_1, frInit, Ks.tree_Path_1, Rs.tree_Path_1, eStr, eBool, hc]

theorem splitBy_len (c : UInt8) : ∀ s, (splitBy c s).length ≤ s.length + 1
  | [] => by simp [splitBy]
  | b :: r => by
    have ih := splitBy_len c r
    unfold splitBy; split
    · simp; omega
    · split
      · rename_i p ps h; rw [h] at ih; simp at ih ⊢; omega
      · simp
def pathOK (s : Bs) : Bool := !ltB 128 s.length && !ltB 8 (splitBy 47 s).length && (splitBy 47 s).all partOK
def F_Path : List AV → Option AV := F1 eStr eInt fun s => if s.length < 4294967281 then some (if pathOK s then 0 else 2) else none
theorem Path_ok (G G0 : Gam) (hS : G Fn.strings_Split = some (.pure F_Split)) (hC : G Fn.slices_ContainsFunc___string_string_ = some (.gen (lookF (F_ContainsFunc false 1 G0)))) (hG0 : G0 Fn.tree_Path_1 = some (.pure F_Path1)) : ∀ args r, F_Path args = some r → wpM G Mc.tree_Path (pureQ Rs.tree_Path r) [] (frInit Ks.tree_Path args) [] := F1_ok fun s r h => by
  split at h
  · rename_i hs
    injection h with h; subst h
    rw [wpM_go]
    have h1 : ∀ st h, opV G st h (.call Fn.strings_Split) (some [.str s, .str [47]]) = some (.sl ((splitBy 47 s).map rStr.enc), h) := fun st h => op_call hS rfl (F2_use (A := eStr) (B := eStr) (R := eSl rStr) (x := s) (y := [47]) (by simp only [hs, if_true])) (.inr rfl)
    have h2 := contains_use (h := []) (caps := []) (p := fun x => !partOK x) (f := Fn.tree_Path_1) (e := rStr.enc) (val := .str) (xs := splitBy 47 s) hC (by have := splitBy_len 47 s; unfold big; omega) (fun x => ⟨rfl, rfl⟩) (fun x _ => ask_of (call_pure hG0 rfl (F1_use (A := eStr) (R := eBool) (x := x) rfl) rfl))
    have hall : (splitBy 47 s).any (fun x => !partOK x) = !(splitBy 47 s).all partOK := by rw [List.not_all_eq_any_not]
    rw [hall] at h2
    cases c1 : ltB 128 s.length <;> cases c2 : ltB 8 (splitBy 47 s).length <;> cases c3 : (splitBy 47 s).all partOK <;>
      simp only [c3] at h2 <;> simp [Mc.tree_Path, frInit, Ks.tree_Path, Rs.tree_Path, eStr, eInt, pathOK, h1, h2, c1, c2, c3]
  · cases h

/-! ### The reference's paths -/
attribute [local congr] ite_congr
def F_name : List AV → Option AV := F1 eStr eBool fun s => if s.length ≤ big then some (partOK s) else none
theorem name_loop (G : Gam) (s : Bs) (hb : s.length ≤ big) : ∀ (rest : Bs) (i : Nat), s.drop i = rest →
    headM G [4] Mc.licitref16_name_L0 0 [.blk 0, .seq (.seq (.reg [⟨none, some 2, true, .mv, [.c (.bool true)]⟩]) .ret)] (pureQ Rs.licitref16_name (.bool (rest.all fun b => pch b.toNat)))
    [(0, .str s), (2, .bool false), (3, .int .i64 i), (4, .junk)] []
  | [], i, hd => by
    have hi := drop_nil hd
    have hi' : ltB i s.length = false := ltB_not.2 (by omega)
    refine head_go (Mc.licitref16_name_L0.eq_1) ?_
    simp [trunc, hi', Rs.licitref16_name]
  | b :: rest, i, hd => by
    obtain ⟨hi, hx, hxd⟩ := drop_cons hd
    have hi' : ltB i s.length = true := ltB_iff.2 (by omega)
    have hw := wrap1 (i := i) (by omega)
    have ih := name_loop G s hb rest (i + 1) hxd
    refine head_go (Mc.licitref16_name_L0.eq_1) ?_
    have hB : ((ltB (b.toNat : Int) 97 || ltB 122 b.toNat) && (ltB b.toNat 48 || ltB 57 b.toNat) && !eqB b.toNat 46 && !eqB b.toNat 95 && !eqB b.toNat 45) = !pch b.toNat := by simp [pch]
    simp +contextual [trunc, hi', op_istr hx, hw]
    rw [hB]
    cases hp : pch b.toNat with
    | true =>
      simp [hw]
      refine head_of ?_
      simpa [trunc] using ih
    | false => simp [Rs.licitref16_name]

theorem name_ok (G : Gam) : ∀ args r, F_name args = some r → wpM G Mc.licitref16_name (pureQ Rs.licitref16_name r) [] (frInit Ks.licitref16_name args) [] := F1_ok fun s r h => by
  split at h
  · rename_i hs
    injection h with h; subst h
    rw [wpM_go]
    cases s with
    | nil => simp +contextual [Mc.licitref16_name, frInit, Ks.licitref16_name, Rs.licitref16_name, eStr, eBool, partOK, ltB]
    | cons c r =>
      have ih := name_loop G (c :: r) hs (c :: r) 0 rfl
      have h0 : ltB ((r.length : Int) + 1) 1 = false := ltB_not.2 (by omega)
      have hl : ltB (((c :: r).length : Nat) : Int) 32 = ltB (r.length + 1) 32 := rfl
      simp +contextual [Mc.licitref16_name, frInit, Ks.licitref16_name, eStr, eBool, partOK, h0, -List.all_cons]
      cases c1 : ltB 32 ((r.length : Int) + 1) with
      | true => simp [Rs.licitref16_name]
      | false =>
        cases c2 : eqB (c.toNat : Int) 46 with
        | true => simp [Rs.licitref16_name]
        | false =>
          cases c3 : eqB (c.toNat : Int) 45 with
          | true => simp [Rs.licitref16_name]
          | false => simpa using ih
  · cases h

/-- A piece that has begun, ahead of the pieces. -/
def preP (cur : Bs) : List Bs → List Bs
  | p :: ps => (cur ++ p) :: ps
  | [] => [cur]
theorem preP_len (cur : Bs) (l : List Bs) (h : l ≠ []) : (preP cur l).length = l.length := by
  cases l with
  | nil => exact absurd rfl h
  | cons p ps => rfl
theorem preP_nil (l : List Bs) (h : l ≠ []) : preP [] l = l := by
  cases l with
  | nil => exact absurd rfl h
  | cons p ps => rfl
theorem split_step {c : UInt8} {cur : Bs} {b : UInt8} {r : Bs} (h : b ≠ c) : preP cur (splitBy c (b :: r)) = preP (cur ++ [b]) (splitBy c r) := by
  have hne := splitBy_ne c r
  simp only [splitBy, h, if_false]
  cases hs : splitBy c r with
  | nil => exact absurd hs hne
  | cons p ps => simp [preP]
theorem split_hit {c : UInt8} {cur : Bs} {r : Bs} : preP cur (splitBy c (c :: r)) = cur :: splitBy c r := by simp [splitBy, preP]

def F_refPath : List AV → Option AV := F1 eStr eBool fun s => if s.length ≤ big then some (pathOK s) else none
theorem refPath_loop (G : Gam) (hG : G Fn.licitref16_name = some (.pure F_name)) (s : Bs) (hb : s.length ≤ 128) : ∀ (rest : Bs) (i from_ names : Nat), s.drop i = rest → i ≤ s.length → from_ ≤ i → names ≤ i →
    headM G [] Mc.licitref16_Path_L0 0 [.blk 0, .seq (.seq (.reg [⟨none, some 35, false, .mv, [.t 3]⟩, ⟨none, some 36, false, .bin .leq, [.t 35, .c (.int .i64 8)]⟩, ⟨none, some 2, true, .mv, [.t 36]⟩]) .ret)] (pureQ Rs.licitref16_Path (.bool ((preP ((s.take i).drop from_) (splitBy 47 rest)).all partOK && !ltB 8 ((names + (splitBy 47 rest).length : Nat) : Int))))
    [(0, .str s), (2, .bool false), (3, .int .i64 names), (4, .int .i64 from_), (5, .int .i64 i)] []
  | rest, i, from_, names, hd, hi, hf, hn => by
    have hw := wrap1 (i := i) (by unfold big; omega)
    have hw2 := wrap1 (i := names) (by unfold big; omega)
    have hle : ltB s.length i = false := ltB_not.2 (by omega)
    have hlen : ((s.take i).drop from_).length ≤ big := by simp; unfold big; omega
    have hc : ∀ h, opV G false h (.call Fn.licitref16_name) (some [.str ((s.take i).drop from_)]) = some (.bool (partOK ((s.take i).drop from_)), h) := fun h => op_call hG rfl (F1_use (A := eStr) (R := eBool) (x := (s.take i).drop from_) (by simp only [hlen, if_true])) (.inl rfl)
    generalize hcur : (s.take i).drop from_ = cur at hc ⊢
    have hs := op_slc_str2 (G := G) (h := []) (st := false) (s := s) (k := .i64) (k' := .i64) hf hi
    rw [hcur] at hs
    match rest, hd with
    | [], hd =>
      have hi2 := drop_nil hd
      have e : i = s.length := by omega
      have hi' : ltB i s.length = false := ltB_not.2 (by omega)
      refine head_go (Mc.licitref16_Path_L0.eq_1) ?_
      cases hp : partOK cur with
      | false => simp +contextual [trunc, hle, hi', hs, hc, hp, Rs.licitref16_Path, splitBy, preP]
      | true =>
        simp +contextual [trunc, hle, hi', hs, hc, hp, hw, hw2, splitBy, preP]
        refine head_go (Mc.licitref16_Path_L0.eq_1) ?_
        have hle2 : ltB s.length ((i : Int) + 1) = true := ltB_iff.2 (by omega)
        simp +contextual [trunc, hle2, Rs.licitref16_Path]
    | b :: rest, hd =>
      obtain ⟨hi2, hx, hxd⟩ := drop_cons hd
      have hi' : ltB i s.length = true := ltB_iff.2 (by omega)
      have ht : s.take (i + 1) = s.take i ++ [b] := by rw [List.take_add_one, hx]; rfl
      by_cases hbc : b = 47
      · subst hbc
        rw [split_hit]
        have ih := refPath_loop G hG s hb rest (i + 1) (i + 1) (names + 1) hxd (by omega) (by omega) (by omega)
        rw [show (s.take (i + 1)).drop (i + 1) = [] by rw [List.drop_eq_nil_iff]; simp; omega, preP_nil _ (splitBy_ne _ _)] at ih
        refine head_go (Mc.licitref16_Path_L0.eq_1) ?_
        have e47 : eqB ((47 : UInt8).toNat : Int) 47 = true := by decide
        cases hp : partOK cur with
        | false => simp +contextual [trunc, hle, hi', op_istr hx, e47, hs, hc, hp, Rs.licitref16_Path]
        | true =>
          simp +contextual [trunc, hle, hi', op_istr hx, e47, hs, hc, hp, hw, hw2]
          refine head_of ?_
          simpa [trunc, splitBy, Nat.add_assoc, Nat.add_comm 1] using ih
      · have e47 : eqB (b.toNat : Int) 47 = false := eqB_not.2 (fun e => hbc (by apply UInt8.toNat_inj.1; simpa using Int.ofNat.inj e))
        rw [split_step hbc]
        have ih := refPath_loop G hG s hb rest (i + 1) from_ names hxd (by omega) (by omega) (by omega)
        rw [ht, List.drop_append_of_le_length (by simp; omega), hcur] at ih
        have hsl : (splitBy 47 (b :: rest)).length = (splitBy 47 rest).length := by
          have h1 := congrArg List.length (split_step (c := 47) (cur := []) (r := rest) hbc)
          rw [preP_len _ _ (splitBy_ne _ _), preP_len _ _ (splitBy_ne _ _)] at h1; exact h1
        rw [hsl]
        refine head_go (Mc.licitref16_Path_L0.eq_1) ?_
        simp +contextual [trunc, hle, hi', op_istr hx, e47, hw]
        refine head_of ?_
        simpa [trunc] using ih
  termination_by rest => rest.length

theorem refPath_ok (G : Gam) (hG : G Fn.licitref16_name = some (.pure F_name)) : ∀ args r, F_refPath args = some r → wpM G Mc.licitref16_Path (pureQ Rs.licitref16_Path r) [] (frInit Ks.licitref16_Path args) [] := F1_ok fun s r h => by
  split at h
  · injection h with h; subst h
    rw [wpM_go]
    cases h1 : ltB 128 s.length with
    | true => simp [Mc.licitref16_Path, frInit, Ks.licitref16_Path, Rs.licitref16_Path, eStr, eBool, pathOK, h1]
    | false =>
      have ih := refPath_loop G hG s (by have := ltB_not.1 h1; omega) s 0 0 0 rfl (by omega) (by omega) (by omega)
      simp only [List.take_zero, List.drop_zero] at ih
      rw [preP_nil _ (splitBy_ne _ _)] at ih
      simpa [Mc.licitref16_Path, frInit, Ks.licitref16_Path, Rs.licitref16_Path, eStr, eBool, pathOK, h1, Bool.and_comm] using ih
  · cases h

end Go.Proofs.YtmjdgpiofhildaaDoor
