/- slices.IndexFunc and ContainsFunc, at this program's types: by program. Parts of paths: cmp.Less, slices.IsSorted, tree.part and what it calls. Paths: tree.part, tree.Path, and the reference's. Functions of the library that the record laws call: slices.Equal, Index, Contains. -/
import Derived.Test.YtmjdgpiofhildaaGreatDoorRecMc
import Derived.Test.YtmjdgpiofhildaaGreatDoorAm10
import Derived.Test.YtmjdgpiofhildaaGreatDoorAm9
namespace Go.Proofs.YtmjdgpiofhildaaGreatDoor
open Go.RowKit Go.IntWalk

/-! ### slices_IndexFunc_api_Record_api_Done_ -/
theorem idxf_loop_slices_IndexFunc_api_Record_api_Done_ (G : Gam) (h : Heap) (rows : List (List AV)) (f : FuncId) (caps : List AV) (hb : rows.length ≤ big) : ∀ (rest : List (List AV)) (i : Nat) (v : Int), rows.drop i = rest → findA (fun row => if row.length = 6 then (mkVal true 6 row).bind (ask G h f caps) else none) i rest = some v →
    headM G [5] Mc.slices_IndexFunc_api_Record_api_Done__L0 h.length [.blk 0, .seq (.seq (.reg [⟨none, some 4, true, .mv, [.c (.int .i64 (-1))]⟩]) .ret)] (lookQ Rs.slices_IndexFunc_api_Record_api_Done_ (.int .i64 v) h)
    [(0, .sl rows), (1, .fn f caps), (4, .int .i64 0), (5, .junk), (7, .int .i64 rows.length), (8, .int .i64 i)] h
  | [], i, v, hd, hv => by
    have hi := drop_nil hd
    have hi' : ¬ (i : Int) < rows.length := by omega
    simp only [findA, Option.some.injEq] at hv; subst hv
    refine head_go (Mc.slices_IndexFunc_api_Record_api_Done__L0.eq_1) ?_
    simp [ltB, hi', lookQ, Rs.slices_IndexFunc_api_Record_api_Done_, owns, freezeAll]
  | x :: rest, i, v, hd, hv => by
    obtain ⟨hi, hx, hxd⟩ := drop_cons hd
    have hi' : (i : Int) < rows.length := by omega
    have hw := wrap1 (i := i) (by omega)
    by_cases hl : x.length = 6
    · simp only [findA, hl, if_true] at hv
      cases hm : mkVal true 6 x with
      | none => simp [hm] at hv
      | some a =>
        simp only [hm, Option.bind_some] at hv
        have hcut : mkVal true 6 (cut x 0 6) = some a := by rw [cut_all hl]; exact hm
        cases ha : ask G h f caps a with
        | none => simp [ha] at hv
        | some b =>
          have hc := ask_call ha
          simp only [ha] at hv
          refine head_go (Mc.slices_IndexFunc_api_Record_api_Done__L0.eq_1) ?_
          cases b with
          | true =>
            simp only [Option.some.injEq] at hv; subst hv
            simp [ltB, hi', iadr_sl hx hl, hcut, hc, lookQ, Rs.slices_IndexFunc_api_Record_api_Done_, owns, freezeAll]
          | false =>
            simp [ltB, hi', iadr_sl hx hl, hcut, hc, hw]
            refine head_of ?_
            have ih := idxf_loop_slices_IndexFunc_api_Record_api_Done_ G h rows f caps hb rest (i + 1) v hxd hv
            simpa using ih
    · simp [findA, hl] at hv

theorem idxf_ok_slices_IndexFunc_api_Record_api_Done_ (G : Gam) : ∀ args h r, F_IndexFunc true 6 G args h = some r → wpM G Mc.slices_IndexFunc_api_Record_api_Done_ (lookQ Rs.slices_IndexFunc_api_Record_api_Done_ r h) [] (frInit Ks.slices_IndexFunc_api_Record_api_Done_ args) h := by
  intro args h r hF
  obtain ⟨rows, f, caps, v, rfl, hb, hv, rfl⟩ := F_IndexFunc_inv hF
  rw [wpM_go]
  have ih := idxf_loop_slices_IndexFunc_api_Record_api_Done_ G h rows f caps hb rows 0 v rfl hv
  simpa [Mc.slices_IndexFunc_api_Record_api_Done_, frInit, Ks.slices_IndexFunc_api_Record_api_Done_] using ih

/-! ### slices_IndexFunc___api_Touch_api_Touch_ -/
theorem idxf_loop_slices_IndexFunc___api_Touch_api_Touch_ (G : Gam) (h : Heap) (rows : List (List AV)) (f : FuncId) (caps : List AV) (hb : rows.length ≤ big) : ∀ (rest : List (List AV)) (i : Nat) (v : Int), rows.drop i = rest → findA (fun row => if row.length = 2 then (mkVal true 2 row).bind (ask G h f caps) else none) i rest = some v →
    headM G [5] Mc.slices_IndexFunc___api_Touch_api_Touch__L0 h.length [.blk 0, .seq (.seq (.reg [⟨none, some 4, true, .mv, [.c (.int .i64 (-1))]⟩]) .ret)] (lookQ Rs.slices_IndexFunc___api_Touch_api_Touch_ (.int .i64 v) h)
    [(0, .sl rows), (1, .fn f caps), (4, .int .i64 0), (5, .junk), (7, .int .i64 rows.length), (8, .int .i64 i)] h
  | [], i, v, hd, hv => by
    have hi := drop_nil hd
    have hi' : ¬ (i : Int) < rows.length := by omega
    simp only [findA, Option.some.injEq] at hv; subst hv
    refine head_go (Mc.slices_IndexFunc___api_Touch_api_Touch__L0.eq_1) ?_
    simp [ltB, hi', lookQ, Rs.slices_IndexFunc___api_Touch_api_Touch_, owns, freezeAll]
  | x :: rest, i, v, hd, hv => by
    obtain ⟨hi, hx, hxd⟩ := drop_cons hd
    have hi' : (i : Int) < rows.length := by omega
    have hw := wrap1 (i := i) (by omega)
    by_cases hl : x.length = 2
    · simp only [findA, hl, if_true] at hv
      cases hm : mkVal true 2 x with
      | none => simp [hm] at hv
      | some a =>
        simp only [hm, Option.bind_some] at hv
        have hcut : mkVal true 2 (cut x 0 2) = some a := by rw [cut_all hl]; exact hm
        cases ha : ask G h f caps a with
        | none => simp [ha] at hv
        | some b =>
          have hc := ask_call ha
          simp only [ha] at hv
          refine head_go (Mc.slices_IndexFunc___api_Touch_api_Touch__L0.eq_1) ?_
          cases b with
          | true =>
            simp only [Option.some.injEq] at hv; subst hv
            simp [ltB, hi', iadr_sl hx hl, hcut, hc, lookQ, Rs.slices_IndexFunc___api_Touch_api_Touch_, owns, freezeAll]
          | false =>
            simp [ltB, hi', iadr_sl hx hl, hcut, hc, hw]
            refine head_of ?_
            have ih := idxf_loop_slices_IndexFunc___api_Touch_api_Touch_ G h rows f caps hb rest (i + 1) v hxd hv
            simpa using ih
    · simp [findA, hl] at hv

theorem idxf_ok_slices_IndexFunc___api_Touch_api_Touch_ (G : Gam) : ∀ args h r, F_IndexFunc true 2 G args h = some r → wpM G Mc.slices_IndexFunc___api_Touch_api_Touch_ (lookQ Rs.slices_IndexFunc___api_Touch_api_Touch_ r h) [] (frInit Ks.slices_IndexFunc___api_Touch_api_Touch_ args) h := by
  intro args h r hF
  obtain ⟨rows, f, caps, v, rfl, hb, hv, rfl⟩ := F_IndexFunc_inv hF
  rw [wpM_go]
  have ih := idxf_loop_slices_IndexFunc___api_Touch_api_Touch_ G h rows f caps hb rows 0 v rfl hv
  simpa [Mc.slices_IndexFunc___api_Touch_api_Touch_, frInit, Ks.slices_IndexFunc___api_Touch_api_Touch_] using ih

theorem contf_ok_slices_ContainsFunc___api_Touch_api_Touch_ (G G0 : Gam) (hG : G Fn.slices_IndexFunc___api_Touch_api_Touch_ = some (.gen (lookF (F_IndexFunc true 2 G0)))) : ∀ args h r, F_ContainsFunc true 2 G0 args h = some r → wpM G Mc.slices_ContainsFunc___api_Touch_api_Touch_ (lookQ Rs.slices_ContainsFunc___api_Touch_api_Touch_ r h) [] (frInit Ks.slices_ContainsFunc___api_Touch_api_Touch_ args) h := by
  intro args h r hF
  obtain ⟨rows, f, caps, v, rfl, hb, hv, rfl⟩ := F_ContainsFunc_inv hF
  rw [wpM_go]
  have hc : ∀ h0 : Heap, h0 = h → opV G false h0 (.call Fn.slices_IndexFunc___api_Touch_api_Touch_) (some [.sl rows, .fn f caps]) = some (.int .i64 v, h0) := fun h0 e => by subst e; rw [op_call_gen hG]; simp [lookF, F_IndexFunc, hb, hv]
  simp [Mc.slices_ContainsFunc___api_Touch_api_Touch_, frInit, Ks.slices_ContainsFunc___api_Touch_api_Touch_, hc, lookQ, Rs.slices_ContainsFunc___api_Touch_api_Touch_, owns, freezeAll]

/-! ### slices_IndexFunc___string_string_ -/
theorem idxf_loop_slices_IndexFunc___string_string_ (G : Gam) (h : Heap) (rows : List (List AV)) (f : FuncId) (caps : List AV) (hb : rows.length ≤ big) : ∀ (rest : List (List AV)) (i : Nat) (v : Int), rows.drop i = rest → findA (fun row => if row.length = 1 then (mkVal false 1 row).bind (ask G h f caps) else none) i rest = some v →
    headM G [5] Mc.slices_IndexFunc___string_string__L0 h.length [.blk 0, .seq (.seq (.reg [⟨none, some 4, true, .mv, [.c (.int .i64 (-1))]⟩]) .ret)] (lookQ Rs.slices_IndexFunc___string_string_ (.int .i64 v) h)
    [(0, .sl rows), (1, .fn f caps), (4, .int .i64 0), (5, .junk), (7, .int .i64 rows.length), (8, .int .i64 i)] h
  | [], i, v, hd, hv => by
    have hi := drop_nil hd
    have hi' : ¬ (i : Int) < rows.length := by omega
    simp only [findA, Option.some.injEq] at hv; subst hv
    refine head_go (Mc.slices_IndexFunc___string_string__L0.eq_1) ?_
    simp [ltB, hi', lookQ, Rs.slices_IndexFunc___string_string_, owns, freezeAll]
  | x :: rest, i, v, hd, hv => by
    obtain ⟨hi, hx, hxd⟩ := drop_cons hd
    have hi' : (i : Int) < rows.length := by omega
    have hw := wrap1 (i := i) (by omega)
    by_cases hl : x.length = 1
    · simp only [findA, hl, if_true] at hv
      cases hm : mkVal false 1 x with
      | none => simp [hm] at hv
      | some a =>
        simp only [hm, Option.bind_some] at hv
        have hcut : mkVal false 1 (cut x 0 1) = some a := by rw [cut_all hl]; exact hm
        cases ha : ask G h f caps a with
        | none => simp [ha] at hv
        | some b =>
          have hc := ask_call ha
          simp only [ha] at hv
          refine head_go (Mc.slices_IndexFunc___string_string__L0.eq_1) ?_
          cases b with
          | true =>
            simp only [Option.some.injEq] at hv; subst hv
            simp [ltB, hi', iadr_sl hx hl, hcut, hc, lookQ, Rs.slices_IndexFunc___string_string_, owns, freezeAll]
          | false =>
            simp [ltB, hi', iadr_sl hx hl, hcut, hc, hw]
            refine head_of ?_
            have ih := idxf_loop_slices_IndexFunc___string_string_ G h rows f caps hb rest (i + 1) v hxd hv
            simpa using ih
    · simp [findA, hl] at hv

theorem idxf_ok_slices_IndexFunc___string_string_ (G : Gam) : ∀ args h r, F_IndexFunc false 1 G args h = some r → wpM G Mc.slices_IndexFunc___string_string_ (lookQ Rs.slices_IndexFunc___string_string_ r h) [] (frInit Ks.slices_IndexFunc___string_string_ args) h := by
  intro args h r hF
  obtain ⟨rows, f, caps, v, rfl, hb, hv, rfl⟩ := F_IndexFunc_inv hF
  rw [wpM_go]
  have ih := idxf_loop_slices_IndexFunc___string_string_ G h rows f caps hb rows 0 v rfl hv
  simpa [Mc.slices_IndexFunc___string_string_, frInit, Ks.slices_IndexFunc___string_string_] using ih

theorem contf_ok_slices_ContainsFunc___string_string_ (G G0 : Gam) (hG : G Fn.slices_IndexFunc___string_string_ = some (.gen (lookF (F_IndexFunc false 1 G0)))) : ∀ args h r, F_ContainsFunc false 1 G0 args h = some r → wpM G Mc.slices_ContainsFunc___string_string_ (lookQ Rs.slices_ContainsFunc___string_string_ r h) [] (frInit Ks.slices_ContainsFunc___string_string_ args) h := by
  intro args h r hF
  obtain ⟨rows, f, caps, v, rfl, hb, hv, rfl⟩ := F_ContainsFunc_inv hF
  rw [wpM_go]
  have hc : ∀ h0 : Heap, h0 = h → opV G false h0 (.call Fn.slices_IndexFunc___string_string_) (some [.sl rows, .fn f caps]) = some (.int .i64 v, h0) := fun h0 e => by subst e; rw [op_call_gen hG]; simp [lookF, F_IndexFunc, hb, hv]
  simp [Mc.slices_ContainsFunc___string_string_, frInit, Ks.slices_ContainsFunc___string_string_, hc, lookQ, Rs.slices_ContainsFunc___string_string_, owns, freezeAll]

end Go.Proofs.YtmjdgpiofhildaaGreatDoor

namespace Go.Proofs.YtmjdgpiofhildaaGreatDoor
open Go.RowKit Go.IntWalk

/-! ### cmp.Less, slices.IsSorted -/
def F_isNaN : List AV → Option AV := F1 eStr eBool fun _ => some false
theorem isNaN_ok (G : Gam) : ∀ args r, F_isNaN args = some r → wpM G Mc.cmp_isNaN_string_ (pureQ Rs.cmp_isNaN_string_ r) [] (frInit Ks.cmp_isNaN_string_ args) [] := F1_ok fun x r h => by
  injection h with h; subst h
  rw [wpM_go]
  simp [Mc.cmp_isNaN_string_, frInit, Ks.cmp_isNaN_string_, Rs.cmp_isNaN_string_, eStr, eBool]

def F_Less : List AV → Option AV := F2 eStr eStr eBool fun a b => some (Op.bytesLess a b)
theorem Less_ok (G : Gam) (hG : G Fn.cmp_isNaN_string_ = some (.pure F_isNaN)) : ∀ args r, F_Less args = some r → wpM G Mc.cmp_Less_string_ (pureQ Rs.cmp_Less_string_ r) [] (frInit Ks.cmp_Less_string_ args) [] := F2_ok fun x y r h => by
  injection h with h; subst h
  rw [wpM_go]
  have hc : ∀ s h x, opV G s h (.call Fn.cmp_isNaN_string_) (some [.str x]) = some (.bool false, h) := fun s h x => op_call hG rfl (F1_use (A := eStr) (R := eBool) (x := x) (r := false) rfl) (.inl rfl)
  simp [Mc.cmp_Less_string_, frInit, Ks.cmp_Less_string_, Rs.cmp_Less_string_, eStr, eBool, hc]

/-- Each string is not less than the one before it, from the end down. -/
def sortedTo (xs : List Bs) : Nat → Bool
  | 0 => true
  | 1 => true
  | n + 2 => match xs[n + 1]?, xs[n]? with
    | some a, some b => !(Op.bytesLess a b) && sortedTo xs (n + 1)
    | _, _ => true
def F_IsSorted : List AV → Option AV := F1 (eSl rStr) eBool fun xs => if xs.length ≤ big then some (sortedTo xs xs.length) else none

theorem IsSorted_loop (G : Gam) (hG : G Fn.cmp_Less_string_ = some (.pure F_Less)) (xs : List Bs) (hb : xs.length ≤ big) : ∀ (n : Nat) (r : Bool), n ≤ xs.length → r = sortedTo xs n →
    headM G [] Mc.slices_IsSorted___string_string__L0 0 [.blk 0, .seq (.seq (.reg [⟨none, some 2, true, .mv, [.c (.bool true)]⟩]) .ret)] (pureQ Rs.slices_IsSorted___string_string_ (.bool r))
    [(0, .sl (xs.map rStr.enc)), (2, .bool false), (3, .int .i64 ((n : Int) - 1))] []
  | 0, r, hn, hr => by
    refine head_go (Mc.slices_IsSorted___string_string__L0.eq_1) ?_
    subst hr
    simp [sortedTo, ltB, trunc, Rs.slices_IsSorted___string_string_]
  | 1, r, hn, hr => by
    refine head_go (Mc.slices_IsSorted___string_string__L0.eq_1) ?_
    subst hr
    simp [sortedTo, ltB, trunc, Rs.slices_IsSorted___string_string_]
  | n + 2, r, hn, hr => by
    have h1 : xs[n + 1]? = some (xs[n + 1]'(by omega)) := by simp
    have h2 : xs[n]? = some (xs[n]'(by omega)) := by simp
    generalize xs[n + 1]'(by omega) = a at h1
    generalize xs[n]'(by omega) = b at h2
    simp only [sortedTo, h1, h2] at hr
    have r1 : (xs.map rStr.enc)[n + 1]? = some [.str a] := by simp [h1, rStr, rOne, eStr]
    have r2 : (xs.map rStr.enc)[n]? = some [.str b] := by simp [h2, rStr, rOne, eStr]
    have hc : ∀ s h, opV G s h (.call Fn.cmp_Less_string_) (some [.str a, .str b]) = some (.bool (Op.bytesLess a b), h) := fun s h => op_call hG rfl (F2_use (A := eStr) (B := eStr) (R := eBool) (x := a) (y := b) rfl) (.inl rfl)
    have e1 : (((n + 2 : Nat) : Int) - 1) = ((n + 1 : Nat) : Int) := by omega
    have w1 : IntKind.i64.wrap (((n + 1 : Nat) : Int) - 1) = ((n : Nat) : Int) := by unfold big at hb; rw [i64_in _ (by omega)]; omega
    have p1 : (0 : Int) < ((n + 1 : Nat) : Int) := by omega
    rw [e1]
    refine head_go (Mc.slices_IsSorted___string_string__L0.eq_1) ?_
    cases hl : Op.bytesLess a b with
    | true =>
      simp only [hl] at hr; simp at hr; subst hr
      simp [-Int.natCast_add, ltB, p1, trunc, iadr_sl r1, iadr_sl r2, w1, hc, hl, Rs.slices_IsSorted___string_string_]
    | false =>
      simp only [hl] at hr; simp at hr
      have ih := IsSorted_loop G hG xs hb (n + 1) r (by omega) hr
      simp [-Int.natCast_add, ltB, p1, trunc, iadr_sl r1, iadr_sl r2, w1, hc, hl]
      refine head_of ?_
      simpa [trunc] using ih

/-! ### strings.indexFunc -/
theorem op_nxt {G : Gam} {s : Bool} {h : Heap} {str : Bs} {l pos : Nat} (hl : h[l]? = some (.iter str pos)) : opV G s h .nxt (some [.ptr l 0]) = if pos < str.length then some (.tup [.bool true, .int .i64 pos, .int .i32 (Utf8.decode ⟨str.toArray⟩ pos).1], h.set l (.iter str (pos + (Utf8.decode ⟨str.toArray⟩ pos).2))) else some (.tup [.bool false], h) := by
  rw [opV_eff rfl]; simp only [evalEff, hl]
theorem set_last {h : Heap} {x y : Blk} : (h ++ [x]).set h.length y = h ++ [y] := by simp
@[simp] theorem op_rng {G : Gam} {s : Bool} {h : Heap} {str : Bs} : opV G s h .rng (some [.str str]) = some (.ptr h.length 0, h ++ [.iter str 0]) := by rw [opV_eff rfl]; rfl
theorem trunc_len {n : Nat} {fr : List (Nat × AV)} {h : Heap} (hl : h.length = n) : trunc n fr h = h := by subst hl; exact trunc_self

/-- The first place whose rune a closure says 'truth' of. -/
noncomputable def runesA (G : Gam) (h : Heap) (f : FuncId) (caps : List AV) (truth : Bool) (s : Bs) : Nat → Nat → Option Int
  | 0, _ => none
  | n + 1, pos => if pos < s.length then (match ask G (h ++ [.iter s (pos + (Utf8.decode ⟨s.toArray⟩ pos).2)]) f caps (.int .i32 (Utf8.decode ⟨s.toArray⟩ pos).1) with
      | some b => if b = truth then some pos else runesA G h f caps truth s n (pos + (Utf8.decode ⟨s.toArray⟩ pos).2)
      | none => none) else some (-1)

noncomputable def F_indexFunc (G : Gam) : List AV → Heap → Option AV
  | [.str s, .fn f caps, .bool truth], h => (runesA G h f caps truth s (s.length + 1) 0).map (.int .i64)
  | _, _ => none
noncomputable def F_strIndexFunc (G : Gam) : List AV → Heap → Option AV
  | [.str s, .fn f caps], h => (runesA G h f caps true s (s.length + 1) 0).map (.int .i64)
  | _, _ => none
noncomputable def F_strContainsFunc (G : Gam) : List AV → Heap → Option AV
  | [.str s, .fn f caps], h => (runesA G h f caps true s (s.length + 1) 0).map fun i => .bool (!ltB i 0)
  | _, _ => none

theorem indexFunc_loop (G : Gam) (h : Heap) (s : Bs) (f : FuncId) (caps : List AV) (truth : Bool) : ∀ (n pos : Nat) (v : Int), runesA G h f caps truth s n pos = some v →
    headM G [7, 8, 11] Mc.strings_indexFunc_L0 (h.length + 1) [.blk 0, .seq (.seq (.reg [⟨none, some 6, true, .mv, [.c (.int .i64 (-1))]⟩]) .ret)] (lookQ Rs.strings_indexFunc (.int .i64 v) h)
    [(0, .str s), (1, .fn f caps), (2, .bool truth), (6, .int .i64 0), (7, .junk), (8, .junk), (10, .ptr h.length 0), (11, .junk)] (h ++ [.iter s pos])
  | 0, pos, v, hv => by simp [runesA] at hv
  | n + 1, pos, v, hv => by
    refine head_go (Mc.strings_indexFunc_L0.eq_1) ?_
    rw [trunc_len (by simp)]
    have hn := fun s' => op_nxt (G := G) (s := s') (h := h ++ [.iter s pos]) (str := s) (l := h.length) (pos := pos) (by simp)
    simp only [runesA] at hv
    by_cases hp : pos < s.length
    · simp only [hp, if_true] at hv
      cases ha : ask G (h ++ [.iter s (pos + (Utf8.decode ⟨s.toArray⟩ pos).2)]) f caps (.int .i32 (Utf8.decode ⟨s.toArray⟩ pos).1) with
      | none => simp [ha] at hv
      | some b =>
        have hc := ask_call ha
        simp only [ha] at hv
        by_cases hb : b = truth
        · simp only [hb, if_true, Option.some.injEq] at hv; subst hv hb
          simp [hn, hp, set_last, hc, lookQ, Rs.strings_indexFunc, owns, freezeAll]
        · simp only [hb, if_false] at hv
          have hb' : (b == truth) = false := by simp [hb]
          simp [hn, hp, set_last, hc, hb']
          refine head_of ?_
          have ih := indexFunc_loop G h s f caps truth n _ v hv
          rw [trunc_len (by simp)]
          simpa using ih
    · simp only [hp, if_false, Option.some.injEq] at hv; subst hv
      simp [hn, hp, lookQ, Rs.strings_indexFunc, owns, freezeAll]

theorem indexFunc_ok (G : Gam) : ∀ args h r, F_indexFunc G args h = some r → wpM G Mc.strings_indexFunc (lookQ Rs.strings_indexFunc r h) [] (frInit Ks.strings_indexFunc args) h := by
  intro args h r hF
  match args, hF with
  | [.str s, .fn f caps, .bool truth], hF =>
    simp only [F_indexFunc, Option.map_eq_some_iff] at hF
    obtain ⟨v, hv, rfl⟩ := hF
    rw [wpM_go]
    have ih := indexFunc_loop G h s f caps truth _ 0 v hv
    simpa [Mc.strings_indexFunc, frInit, Ks.strings_indexFunc] using ih

theorem strIndexFunc_ok (G G0 : Gam) (hG : G Fn.strings_indexFunc = some (.gen (lookF (F_indexFunc G0)))) : ∀ args h r, F_strIndexFunc G0 args h = some r → wpM G Mc.strings_IndexFunc (lookQ Rs.strings_IndexFunc r h) [] (frInit Ks.strings_IndexFunc args) h := by
  intro args h r hF
  match args, hF with
  | [.str s, .fn f caps], hF =>
    simp only [F_strIndexFunc, Option.map_eq_some_iff] at hF
    obtain ⟨v, hv, rfl⟩ := hF
    rw [wpM_go]
    have hc : opV G false h (.call Fn.strings_indexFunc) (some [.str s, .fn f caps, .bool true]) = some (.int .i64 v, h) := by rw [op_call_gen hG]; simp [lookF, F_indexFunc, hv]
    simp [Mc.strings_IndexFunc, frInit, Ks.strings_IndexFunc, hc, lookQ, Rs.strings_IndexFunc, owns, freezeAll]

theorem strContainsFunc_ok (G G0 : Gam) (hG : G Fn.strings_IndexFunc = some (.gen (lookF (F_strIndexFunc G0)))) : ∀ args h r, F_strContainsFunc G0 args h = some r → wpM G Mc.strings_ContainsFunc (lookQ Rs.strings_ContainsFunc r h) [] (frInit Ks.strings_ContainsFunc args) h := by
  intro args h r hF
  match args, hF with
  | [.str s, .fn f caps], hF =>
    simp only [F_strContainsFunc, Option.map_eq_some_iff] at hF
    obtain ⟨v, hv, rfl⟩ := hF
    rw [wpM_go]
    have hc : opV G false h (.call Fn.strings_IndexFunc) (some [.str s, .fn f caps]) = some (.int .i64 v, h) := by rw [op_call_gen hG]; simp [lookF, F_strIndexFunc, hv]
    simp [Mc.strings_ContainsFunc, frInit, Ks.strings_ContainsFunc, hc, lookQ, Rs.strings_ContainsFunc, owns, freezeAll]

/-! ### tree.part -/
/-- May the letter stand in a part of a path? -/
def pch (n : Int) : Bool := (!ltB n 97 && !ltB 122 n) || (!ltB n 48 && !ltB 57 n) || eqB n 46 || eqB n 95 || eqB n 45

def F_part1 : List AV → Option AV := F1 (eKind .i32) eBool fun n => some (!pch n)
theorem part1_ok (G : Gam) : ∀ args r, F_part1 args = some r → wpM G Mc.tree_part_1 (pureQ Rs.tree_part_1 r) [] (frInit Ks.tree_part_1 args) [] := F1_ok fun x r h => by
  injection h with h; subst h
  rw [wpM_go]
  simp +contextual [Mc.tree_part_1, frInit, Ks.tree_part_1, Rs.tree_part_1, eKind, eBool, bind_ite, ite_bool, ite_and, pch]

end Go.Proofs.YtmjdgpiofhildaaGreatDoor

namespace Go.Proofs.YtmjdgpiofhildaaGreatDoor
open Go.RowKit Go.IntWalk

def partOK : Bs → Bool
  | [] => false
  | c :: r => !ltB 32 ((c :: r).length : Nat) && !eqB c.toNat 46 && !eqB c.toNat 45 && (c :: r).all fun b => pch b.toNat

theorem decode_lo {s : Bs} {i : Nat} {b : UInt8} (hb : s[i]? = some b) (h : b.toNat < 128) : Utf8.decode ⟨s.toArray⟩ i = (b.toNat, 1) := by
  have hg : (ByteArray.get! ⟨s.toArray⟩ i) = b := by
    show s.toArray[i]! = b
    simp [getElem!_def, hb]
  unfold Utf8.decode
  simp [hg, h]
theorem decode_hi {s : Bs} {i : Nat} {b : UInt8} (hb : s[i]? = some b) (h : 128 ≤ b.toNat) : 128 ≤ (Utf8.decode ⟨s.toArray⟩ i).1 := by
  have hg : (ByteArray.get! ⟨s.toArray⟩ (i + 0)) = b := by
    show s.toArray[i]! = b
    simp [getElem!_def, hb]
  unfold Utf8.decode
  have h' : ¬ b.toNat < 128 := by omega
  simp only [hg, h', if_false]
  split
  · split
    · simpa using ‹_›
    · decide
  · split
    · split
      · rename_i h3; simp at h3; simp; omega
      · decide
    · split
      · split
        · rename_i h3; simp at h3; simp; omega
        · decide
      · decide
theorem pch_hi {n : Int} (h : 128 ≤ n) : pch n = false := by
  have a1 : ltB 122 n = true := ltB_iff.2 (by omega)
  have a2 : ltB 57 n = true := ltB_iff.2 (by omega)
  have a3 : eqB n 46 = false := eqB_not.2 (by omega)
  have a4 : eqB n 95 = false := eqB_not.2 (by omega)
  have a5 : eqB n 45 = false := eqB_not.2 (by omega)
  simp [pch, a1, a2, a3, a4, a5]

theorem runes_part {G : Gam} (hG : G Fn.tree_part_1 = some (.pure F_part1)) (h : Heap) (s : Bs) : ∀ (n pos : Nat), s.length - pos < n → ∃ v, runesA G h Fn.tree_part_1 [] true s n pos = some v ∧ ltB v 0 = (s.drop pos).all fun b => pch b.toNat
  | 0, pos, hn => by omega
  | n + 1, pos, hn => by
    have hask : ∀ h (x : Int), ask G h Fn.tree_part_1 [] (.int .i32 x) = some (!pch x) := fun h x => ask_of (call_pure hG rfl (F1_use (A := eKind .i32) (R := eBool) (x := x) rfl) rfl)
    simp only [runesA, hask]
    by_cases hp : pos < s.length
    · obtain ⟨b, hb, hd⟩ := drop_head hp
      simp only [hp, if_true, hd, List.all_cons]
      rcases Nat.lt_or_ge b.toNat 128 with hlo | hhi
      · rw [decode_lo hb hlo]
        cases hpc : pch b.toNat with
        | true =>
          simp only [hpc, Bool.not_true, Bool.false_eq_true, if_false, Bool.true_and]
          exact runes_part hG h s n (pos + 1) (by omega)
        | false => exact ⟨pos, by simp [hpc], by simp [ltB_not]⟩
      · have h1 := pch_hi (n := (Utf8.decode ⟨s.toArray⟩ pos).1) (by have := decode_hi hb hhi; omega)
        have h2 := pch_hi (n := b.toNat) (by omega)
        exact ⟨pos, by simp [h1], by simp [h2, ltB_not]⟩
    · have : s.drop pos = [] := by rw [List.drop_eq_nil_iff]; omega
      exact ⟨-1, by simp [hp], by rw [this]; rfl⟩

def F_part : List AV → Option AV := F1 eStr eBool fun s => some (partOK s)
theorem part_ok (G G0 : Gam) (hG : G Fn.strings_ContainsFunc = some (.gen (lookF (F_strContainsFunc G0)))) (hG0 : G0 Fn.tree_part_1 = some (.pure F_part1)) : ∀ args r, F_part args = some r → wpM G Mc.tree_part (pureQ Rs.tree_part r) [] (frInit Ks.tree_part args) [] := F1_ok fun s r h => by
  injection h with h; subst h
  rw [wpM_go]
  cases s with
  | nil => simp [Mc.tree_part, frInit, Ks.tree_part, Rs.tree_part, eStr, eBool, partOK]
  | cons c r =>
    obtain ⟨v, hv, hl⟩ := runes_part hG0 [] (c :: r) ((c :: r).length + 1) 0 (by omega)
    have hc : opV G false [] (.call Fn.strings_ContainsFunc) (some [.str (c :: r), .fn Fn.tree_part_1 []]) = some (.bool (!ltB v 0), []) := by rw [op_call_gen hG]; simp only [lookF, F_strContainsFunc, hv]; rfl
    rw [List.drop_zero] at hl
    cases c1 : ltB 32 ((r.length : Int) + 1) <;> cases c2 : eqB (c.toNat : Int) 46 <;> cases c3 : eqB (c.toNat : Int) 45 <;>
      simp [Mc.tree_part, frInit, Ks.tree_part, Rs.tree_part, eStr, eBool, partOK, hc, hl, -List.all_cons, c1, c2, c3]

def F_Path1 : List AV → Option AV := F1 eStr eBool fun s => some (!partOK s)
theorem Path1_ok (G : Gam) (hG : G Fn.tree_part = some (.pure F_part)) : ∀ args r, F_Path1 args = some r → wpM G Mc.tree_Path_1 (pureQ Rs.tree_Path_1 r) [] (frInit Ks.tree_Path_1 args) [] := F1_ok fun s r h => by
  injection h with h; subst h
  rw [wpM_go]
  have hc : ∀ st h, opV G st h (.call Fn.tree_part) (some [.str s]) = some (.bool (partOK s), h) := fun st h => op_call hG rfl (F1_use (A := eStr) (R := eBool) (x := s) rfl) (.inl rfl)
  simp [Mc.tree_Path_1, frInit, Ks.tree_Path_1, Rs.tree_Path_1, eStr, eBool, hc]

theorem splitBy_len (c : UInt8) : ∀ s, (splitBy c s).length ≤ s.length + 1
  | [] => by simp [splitBy]
  | b :: r => by
    have ih := splitBy_len c r
    unfold splitBy; split
    · simp; omega
    · split
      · rename_i p ps h; rw [h] at ih; simp at ih ⊢; omega
      · simp
def pathOK (s : Bs) : Bool := !ltB 128 s.length && !ltB 8 (splitBy 47 s).length && (splitBy 47 s).all partOK
def F_Path : List AV → Option AV := F1 eStr eInt fun s => if s.length < 4294967281 then some (if pathOK s then 0 else 2) else none
theorem Path_ok (G G0 : Gam) (hS : G Fn.strings_Split = some (.pure F_Split)) (hC : G Fn.slices_ContainsFunc___string_string_ = some (.gen (lookF (F_ContainsFunc false 1 G0)))) (hG0 : G0 Fn.tree_Path_1 = some (.pure F_Path1)) : ∀ args r, F_Path args = some r → wpM G Mc.tree_Path (pureQ Rs.tree_Path r) [] (frInit Ks.tree_Path args) [] := F1_ok fun s r h => by
  split at h
  · rename_i hs
    injection h with h; subst h
    rw [wpM_go]
    have h1 : ∀ st h, opV G st h (.call Fn.strings_Split) (some [.str s, .str [47]]) = some (.sl ((splitBy 47 s).map rStr.enc), h) := fun st h => op_call hS rfl (F2_use (A := eStr) (B := eStr) (R := eSl rStr) (x := s) (y := [47]) (by simp only [hs, if_true])) (.inr rfl)
    have h2 := contains_use (h := []) (caps := []) (p := fun x => !partOK x) (f := Fn.tree_Path_1) (e := rStr.enc) (val := .str) (xs := splitBy 47 s) hC (by have := splitBy_len 47 s; unfold big; omega) (fun x => ⟨rfl, rfl⟩) (fun x _ => ask_of (call_pure hG0 rfl (F1_use (A := eStr) (R := eBool) (x := x) rfl) rfl))
    have hall : (splitBy 47 s).any (fun x => !partOK x) = !(splitBy 47 s).all partOK := by rw [List.not_all_eq_any_not]
    rw [hall] at h2
    cases c1 : ltB 128 s.length <;> cases c2 : ltB 8 (splitBy 47 s).length <;> cases c3 : (splitBy 47 s).all partOK <;>
      simp only [c3] at h2 <;> simp [Mc.tree_Path, frInit, Ks.tree_Path, Rs.tree_Path, eStr, eInt, pathOK, h1, h2, c1, c2, c3]
  · cases h

/-! ### The reference's paths -/
attribute [local congr] ite_congr
def F_name : List AV → Option AV := F1 eStr eBool fun s => if s.length ≤ big then some (partOK s) else none
theorem name_loop (G : Gam) (s : Bs) (hb : s.length ≤ big) : ∀ (rest : Bs) (i : Nat), s.drop i = rest →
    headM G [4] Mc.licitref16_name_L0 0 [.blk 0, .seq (.seq (.reg [⟨none, some 2, true, .mv, [.c (.bool true)]⟩]) .ret)] (pureQ Rs.licitref16_name (.bool (rest.all fun b => pch b.toNat)))
    [(0, .str s), (2, .bool false), (3, .int .i64 i), (4, .junk)] []
  | [], i, hd => by
    have hi := drop_nil hd
    have hi' : ltB i s.length = false := ltB_not.2 (by omega)
    refine head_go (Mc.licitref16_name_L0.eq_1) ?_
    simp [trunc, hi', Rs.licitref16_name]
  | b :: rest, i, hd => by
    obtain ⟨hi, hx, hxd⟩ := drop_cons hd
    have hi' : ltB i s.length = true := ltB_iff.2 (by omega)
    have hw := wrap1 (i := i) (by omega)
    have ih := name_loop G s hb rest (i + 1) hxd
    refine head_go (Mc.licitref16_name_L0.eq_1) ?_
    have hB : ((ltB (b.toNat : Int) 97 || ltB 122 b.toNat) && (ltB b.toNat 48 || ltB 57 b.toNat) && !eqB b.toNat 46 && !eqB b.toNat 95 && !eqB b.toNat 45) = !pch b.toNat := by simp [pch]
    simp +contextual [trunc, hi', op_istr hx, hw]
    rw [hB]
    cases hp : pch b.toNat with
    | true =>
      simp [hw]
      refine head_of ?_
      simpa [trunc] using ih
    | false => simp [Rs.licitref16_name]

theorem name_ok (G : Gam) : ∀ args r, F_name args = some r → wpM G Mc.licitref16_name (pureQ Rs.licitref16_name r) [] (frInit Ks.licitref16_name args) [] := F1_ok fun s r h => by
  split at h
  · rename_i hs
    injection h with h; subst h
    rw [wpM_go]
    cases s with
    | nil => simp +contextual [Mc.licitref16_name, frInit, Ks.licitref16_name, Rs.licitref16_name, eStr, eBool, partOK, ltB]
    | cons c r =>
      have ih := name_loop G (c :: r) hs (c :: r) 0 rfl
      have h0 : ltB ((r.length : Int) + 1) 1 = false := ltB_not.2 (by omega)
      have hl : ltB (((c :: r).length : Nat) : Int) 32 = ltB (r.length + 1) 32 := rfl
      simp +contextual [Mc.licitref16_name, frInit, Ks.licitref16_name, eStr, eBool, partOK, h0, -List.all_cons]
      cases c1 : ltB 32 ((r.length : Int) + 1) with
      | true => simp [Rs.licitref16_name]
      | false =>
        cases c2 : eqB (c.toNat : Int) 46 with
        | true => simp [Rs.licitref16_name]
        | false =>
          cases c3 : eqB (c.toNat : Int) 45 with
          | true => simp [Rs.licitref16_name]
          | false => simpa using ih
  · cases h

/-- A piece that has begun, ahead of the pieces. -/
def preP (cur : Bs) : List Bs → List Bs
  | p :: ps => (cur ++ p) :: ps
  | [] => [cur]
theorem preP_len (cur : Bs) (l : List Bs) (h : l ≠ []) : (preP cur l).length = l.length := by
  cases l with
  | nil => exact absurd rfl h
  | cons p ps => rfl
theorem preP_nil (l : List Bs) (h : l ≠ []) : preP [] l = l := by
  cases l with
  | nil => exact absurd rfl h
  | cons p ps => rfl
theorem split_step {c : UInt8} {cur : Bs} {b : UInt8} {r : Bs} (h : b ≠ c) : preP cur (splitBy c (b :: r)) = preP (cur ++ [b]) (splitBy c r) := by
  have hne := splitBy_ne c r
  simp only [splitBy, h, if_false]
  cases hs : splitBy c r with
  | nil => exact absurd hs hne
  | cons p ps => simp [preP]
theorem split_hit {c : UInt8} {cur : Bs} {r : Bs} : preP cur (splitBy c (c :: r)) = cur :: splitBy c r := by simp [splitBy, preP]

def F_refPath : List AV → Option AV := F1 eStr eBool fun s => if s.length ≤ big then some (pathOK s) else none
theorem refPath_loop (G : Gam) (hG : G Fn.licitref16_name = some (.pure F_name)) (s : Bs) (hb : s.length ≤ 128) : ∀ (rest : Bs) (i from_ names : Nat), s.drop i = rest → i ≤ s.length → from_ ≤ i → names ≤ i →
    headM G [] Mc.licitref16_Path_L0 0 [.blk 0, .seq (.seq (.reg [⟨none, some 35, false, .mv, [.t 3]⟩, ⟨none, some 36, false, .bin .leq, [.t 35, .c (.int .i64 8)]⟩, ⟨none, some 2, true, .mv, [.t 36]⟩]) .ret)] (pureQ Rs.licitref16_Path (.bool ((preP ((s.take i).drop from_) (splitBy 47 rest)).all partOK && !ltB 8 ((names + (splitBy 47 rest).length : Nat) : Int))))
    [(0, .str s), (2, .bool false), (3, .int .i64 names), (4, .int .i64 from_), (5, .int .i64 i)] []
  | rest, i, from_, names, hd, hi, hf, hn => by
    have hw := wrap1 (i := i) (by unfold big; omega)
    have hw2 := wrap1 (i := names) (by unfold big; omega)
    have hle : ltB s.length i = false := ltB_not.2 (by omega)
    have hlen : ((s.take i).drop from_).length ≤ big := by simp; unfold big; omega
    have hc : ∀ h, opV G false h (.call Fn.licitref16_name) (some [.str ((s.take i).drop from_)]) = some (.bool (partOK ((s.take i).drop from_)), h) := fun h => op_call hG rfl (F1_use (A := eStr) (R := eBool) (x := (s.take i).drop from_) (by simp only [hlen, if_true])) (.inl rfl)
    generalize hcur : (s.take i).drop from_ = cur at hc ⊢
    have hs := op_slc_str2 (G := G) (h := []) (st := false) (s := s) (k := .i64) (k' := .i64) hf hi
    rw [hcur] at hs
    match rest, hd with
    | [], hd =>
      have hi2 := drop_nil hd
      have e : i = s.length := by omega
      have hi' : ltB i s.length = false := ltB_not.2 (by omega)
      refine head_go (Mc.licitref16_Path_L0.eq_1) ?_
      cases hp : partOK cur with
      | false => simp +contextual [trunc, hle, hi', hs, hc, hp, Rs.licitref16_Path, splitBy, preP]
      | true =>
        simp +contextual [trunc, hle, hi', hs, hc, hp, hw, hw2, splitBy, preP]
        refine head_go (Mc.licitref16_Path_L0.eq_1) ?_
        have hle2 : ltB s.length ((i : Int) + 1) = true := ltB_iff.2 (by omega)
        simp +contextual [trunc, hle2, Rs.licitref16_Path]
    | b :: rest, hd =>
      obtain ⟨hi2, hx, hxd⟩ := drop_cons hd
      have hi' : ltB i s.length = true := ltB_iff.2 (by omega)
      have ht : s.take (i + 1) = s.take i ++ [b] := by rw [List.take_add_one, hx]; rfl
      by_cases hbc : b = 47
      · subst hbc
        rw [split_hit]
        have ih := refPath_loop G hG s hb rest (i + 1) (i + 1) (names + 1) hxd (by omega) (by omega) (by omega)
        rw [show (s.take (i + 1)).drop (i + 1) = [] by rw [List.drop_eq_nil_iff]; simp; omega, preP_nil _ (splitBy_ne _ _)] at ih
        refine head_go (Mc.licitref16_Path_L0.eq_1) ?_
        have e47 : eqB ((47 : UInt8).toNat : Int) 47 = true := by decide
        cases hp : partOK cur with
        | false => simp +contextual [trunc, hle, hi', op_istr hx, e47, hs, hc, hp, Rs.licitref16_Path]
        | true =>
          simp +contextual [trunc, hle, hi', op_istr hx, e47, hs, hc, hp, hw, hw2]
          refine head_of ?_
          simpa [trunc, splitBy, Nat.add_assoc, Nat.add_comm 1] using ih
      · have e47 : eqB (b.toNat : Int) 47 = false := eqB_not.2 (fun e => hbc (by apply UInt8.toNat_inj.1; simpa using Int.ofNat.inj e))
        rw [split_step hbc]
        have ih := refPath_loop G hG s hb rest (i + 1) from_ names hxd (by omega) (by omega) (by omega)
        rw [ht, List.drop_append_of_le_length (by simp; omega), hcur] at ih
        have hsl : (splitBy 47 (b :: rest)).length = (splitBy 47 rest).length := by
          have h1 := congrArg List.length (split_step (c := 47) (cur := []) (r := rest) hbc)
          rw [preP_len _ _ (splitBy_ne _ _), preP_len _ _ (splitBy_ne _ _)] at h1; exact h1
        rw [hsl]
        refine head_go (Mc.licitref16_Path_L0.eq_1) ?_
        simp +contextual [trunc, hle, hi', op_istr hx, e47, hw]
        refine head_of ?_
        simpa [trunc] using ih
  termination_by rest => rest.length

theorem refPath_ok (G : Gam) (hG : G Fn.licitref16_name = some (.pure F_name)) : ∀ args r, F_refPath args = some r → wpM G Mc.licitref16_Path (pureQ Rs.licitref16_Path r) [] (frInit Ks.licitref16_Path args) [] := F1_ok fun s r h => by
  split at h
  · injection h with h; subst h
    rw [wpM_go]
    cases h1 : ltB 128 s.length with
    | true => simp [Mc.licitref16_Path, frInit, Ks.licitref16_Path, Rs.licitref16_Path, eStr, eBool, pathOK, h1]
    | false =>
      have ih := refPath_loop G hG s (by have := ltB_not.1 h1; omega) s 0 0 0 rfl (by omega) (by omega) (by omega)
      simp only [List.take_zero, List.drop_zero] at ih
      rw [preP_nil _ (splitBy_ne _ _)] at ih
      simpa [Mc.licitref16_Path, frInit, Ks.licitref16_Path, Rs.licitref16_Path, eStr, eBool, pathOK, h1, Bool.and_comm] using ih
  · cases h

end Go.Proofs.YtmjdgpiofhildaaGreatDoor

namespace Go.Proofs.YtmjdgpiofhildaaGreatDoor
open Go.RowKit Go.IntWalk

def decStrs : List (List AV) → Option (List Bs)
  | [] => some []
  | [.str s] :: r => (decStrs r).map (s :: ·)
  | _ => none
def encStrs (xs : List Bs) : List (List AV) := xs.map fun s => [.str s]
theorem decStrs_of : ∀ {rows : List (List AV)} {xs : List Bs}, decStrs rows = some xs → rows = encStrs xs
  | [], xs, h => by simp [decStrs] at h; subst h; rfl
  | r :: rs, xs, h => by
    unfold decStrs at h
    split at h
    · rename_i e; cases e
    · rename_i s rs' e
      cases e
      simp only [Option.map_eq_some_iff] at h
      obtain ⟨ys, h1, rfl⟩ := h
      rw [decStrs_of h1]; rfl
    · cases h
theorem encStrs_get {xs : List Bs} {i : Nat} {s : Bs} (h : xs[i]? = some s) : (encStrs xs)[i]? = some [.str s] := by simp [encStrs, h]
@[simp] theorem encStrs_len {xs : List Bs} : (encStrs xs).length = xs.length := by simp [encStrs]

def decInts : List (List AV) → Option (List Int)
  | [] => some []
  | [.int .i64 s] :: r => (decInts r).map (s :: ·)
  | _ => none
def encInts (xs : List Int) : List (List AV) := xs.map fun s => [.int .i64 s]
theorem decInts_of : ∀ {rows : List (List AV)} {xs : List Int}, decInts rows = some xs → rows = encInts xs
  | [], xs, h => by simp [decInts] at h; subst h; rfl
  | r :: rs, xs, h => by
    unfold decInts at h
    split at h
    · rename_i e; cases e
    · rename_i s rs' e
      cases e
      simp only [Option.map_eq_some_iff] at h
      obtain ⟨ys, h1, rfl⟩ := h
      rw [decInts_of h1]; rfl
    · cases h
theorem encInts_get {xs : List Int} {i : Nat} {s : Int} (h : xs[i]? = some s) : (encInts xs)[i]? = some [.int .i64 s] := by simp [encInts, h]
@[simp] theorem encInts_len {xs : List Int} : (encInts xs).length = xs.length := by simp [encInts]

/-! ### slices.Equal -/
def F_EqualS : List AV → Option AV
  | [.sl a, .sl b] => match decStrs a, decStrs b with
    | some x, some y => if x.length ≤ big then some (.bool (decide (x = y))) else none
    | _, _ => none
  | _ => none

theorem equalS_loop (G : Gam) (r : AV) (xs ys : List Bs) (hl : xs.length = ys.length) (hb : xs.length ≤ big) : ∀ (rest : List Bs) (i : Nat), xs.drop i = rest → i + rest.length = xs.length → r = .bool (decide (rest = ys.drop i)) →
    headM G [5] Mc.slices_Equal___string_string__L0 0 [.blk 0, .seq (.seq (.reg [⟨none, some 4, true, .mv, [.c (.bool true)]⟩]) .ret)] (pureQ Rs.slices_Equal___string_string_ r)
    [(0, .sl (encStrs xs)), (1, .sl (encStrs ys)), (4, .bool false), (5, .junk), (12, .int .i64 xs.length), (13, .int .i64 i)] []
  | [], i, hd, hn, hr => by
    refine head_go (Mc.slices_Equal___string_string__L0.eq_1) ?_
    simp at hn
    have : ys.drop i = [] := by rw [List.drop_eq_nil_iff]; omega
    rw [this] at hr
    simp at hr
    subst hr
    simp [junkAll, trunc, lowFr, low, lowH, lowB, binAV, intBin, ltB, eqB, hn, pureQ, Rs.slices_Equal___string_string_, resAV, resL, resOne, view]
  | x :: rest, i, hd, hn, hr => by
    refine head_go (Mc.slices_Equal___string_string__L0.eq_1) ?_
    simp at hn
    have hi : (i : Int) < xs.length := by omega
    have hx : xs[i]? = some x := by have := congrArg (·[0]?) hd; simpa using this
    have hyl : i < ys.length := by omega
    obtain ⟨y, hy, hyd⟩ := drop_head hyl
    have hxd : xs.drop (i + 1) = rest := by rw [← List.drop_drop, hd]; rfl
    have hw : IntKind.i64.wrap ((i : Int) + 1) = ((i + 1 : Nat) : Int) := by unfold big at hb; rw [i64_in _ (by omega)]; rfl
    simp [junkAll, trunc, lowFr, low, lowH, lowB, binAV, intBin, ltB, eqB, hi, iadr_sl (encStrs_get hx), iadr_sl (encStrs_get hy), cut, strBin]
    by_cases he : x = y
    · simp [he, binAV, intBin, ltB, eqB, hw]
      refine head_of ?_
      have ih := equalS_loop G r xs ys hl hb rest (i + 1) hxd (by omega) (by rw [hr]; congr 2; rw [hyd, he]; simp)
      simpa [junkAll, trunc, lowFr, low, lowH, lowB] using ih
    · rw [hyd] at hr
      simp [he] at hr
      subst hr
      have hbe : (x == y) = false := by simp [he]
      simp [hbe, pureQ, Rs.slices_Equal___string_string_, resAV, resL, resOne, view]

theorem equalS_ok (G : Gam) (args : List AV) (r : AV) (h : F_EqualS args = some r) : wpM G Mc.slices_Equal___string_string_ (pureQ Rs.slices_Equal___string_string_ r) [] (frInit Ks.slices_Equal___string_string_ args) [] := by
  unfold F_EqualS at h
  split at h
  · rename_i a b
    split at h
    · rename_i xs ys h1 h2
      have := decStrs_of h1; subst this
      have := decStrs_of h2; subst this
      split at h
      · rename_i hb
        injection h with h
        rw [wpM_go]
        by_cases hl : xs.length = ys.length
        · have ih := equalS_loop G r xs ys hl hb xs 0 rfl (by simp) (by simp [← h])
          simpa [Mc.slices_Equal___string_string_, frInit, Ks.slices_Equal___string_string_, lenAV, binAV, intBin, ltB, eqB, hl] using ih
        · have hl' : ¬ ((xs.length : Int) = ys.length) := by omega
          have : decide (xs = ys) = false := by simp; intro e; exact hl (by rw [e])
          rw [this] at h
          have hbe : ((xs.length : Int) != ys.length) = true := by simp [bne]; omega
          simp [hbe, Mc.slices_Equal___string_string_, frInit, Ks.slices_Equal___string_string_, lenAV, binAV, intBin, ltB, eqB, hl', pureQ, Rs.slices_Equal___string_string_, resAV, resL, resOne, view, ← h]
      · cases h
    · cases h
  · cases h

/-! ### slices.Equal, of numbers -/
def F_EqualI : List AV → Option AV
  | [.sl a, .sl b] => match decInts a, decInts b with
    | some x, some y => if x.length ≤ big then some (.bool (decide (x = y))) else none
    | _, _ => none
  | _ => none

theorem equalI_loop (G : Gam) (r : AV) (xs ys : List Int) (hl : xs.length = ys.length) (hb : xs.length ≤ big) : ∀ (rest : List Int) (i : Nat), xs.drop i = rest → i + rest.length = xs.length → r = .bool (decide (rest = ys.drop i)) →
    headM G [5] Mc.slices_Equal___int_int__L0 0 [.blk 0, .seq (.seq (.reg [⟨none, some 4, true, .mv, [.c (.bool true)]⟩]) .ret)] (pureQ Rs.slices_Equal___int_int_ r)
    [(0, .sl (encInts xs)), (1, .sl (encInts ys)), (4, .bool false), (5, .junk), (12, .int .i64 xs.length), (13, .int .i64 i)] []
  | [], i, hd, hn, hr => by
    refine head_go (Mc.slices_Equal___int_int__L0.eq_1) ?_
    simp at hn
    have : ys.drop i = [] := by rw [List.drop_eq_nil_iff]; omega
    rw [this] at hr
    simp at hr
    subst hr
    simp [junkAll, trunc, lowFr, low, lowH, lowB, binAV, intBin, ltB, eqB, hn, pureQ, Rs.slices_Equal___int_int_, resAV, resL, resOne, view]
  | x :: rest, i, hd, hn, hr => by
    refine head_go (Mc.slices_Equal___int_int__L0.eq_1) ?_
    simp at hn
    have hi : (i : Int) < xs.length := by omega
    have hx : xs[i]? = some x := by have := congrArg (·[0]?) hd; simpa using this
    have hyl : i < ys.length := by omega
    obtain ⟨y, hy, hyd⟩ := drop_head hyl
    have hxd : xs.drop (i + 1) = rest := by rw [← List.drop_drop, hd]; rfl
    have hw : IntKind.i64.wrap ((i : Int) + 1) = ((i + 1 : Nat) : Int) := by unfold big at hb; rw [i64_in _ (by omega)]; rfl
    simp [junkAll, trunc, lowFr, low, lowH, lowB, binAV, intBin, ltB, eqB, hi, iadr_sl (encInts_get hx), iadr_sl (encInts_get hy), cut, strBin]
    by_cases he : x = y
    · simp [he, bne, binAV, intBin, ltB, eqB, hw]
      refine head_of ?_
      have ih := equalI_loop G r xs ys hl hb rest (i + 1) hxd (by omega) (by rw [hr]; congr 2; rw [hyd, he]; simp)
      simpa [junkAll, trunc, lowFr, low, lowH, lowB] using ih
    · rw [hyd] at hr
      simp [he] at hr
      subst hr
      have hbe : (x == y) = false := by simp [he]
      simp [hbe, bne, eqB, pureQ, Rs.slices_Equal___int_int_, resAV, resL, resOne, view]

theorem equalI_ok (G : Gam) (args : List AV) (r : AV) (h : F_EqualI args = some r) : wpM G Mc.slices_Equal___int_int_ (pureQ Rs.slices_Equal___int_int_ r) [] (frInit Ks.slices_Equal___int_int_ args) [] := by
  unfold F_EqualI at h
  split at h
  · rename_i a b
    split at h
    · rename_i xs ys h1 h2
      have := decInts_of h1; subst this
      have := decInts_of h2; subst this
      split at h
      · rename_i hb
        injection h with h
        rw [wpM_go]
        by_cases hl : xs.length = ys.length
        · have ih := equalI_loop G r xs ys hl hb xs 0 rfl (by simp) (by simp [← h])
          simpa [Mc.slices_Equal___int_int_, frInit, Ks.slices_Equal___int_int_, lenAV, binAV, intBin, ltB, eqB, hl] using ih
        · have hl' : ¬ ((xs.length : Int) = ys.length) := by omega
          have : decide (xs = ys) = false := by simp; intro e; exact hl (by rw [e])
          rw [this] at h
          have hbe : ((xs.length : Int) != ys.length) = true := by simp [bne]; omega
          simp [hbe, Mc.slices_Equal___int_int_, frInit, Ks.slices_Equal___int_int_, lenAV, binAV, intBin, ltB, eqB, hl', pureQ, Rs.slices_Equal___int_int_, resAV, resL, resOne, view, ← h]
      · cases h
    · cases h
  · cases h

/-! ### slices.Index, slices.Contains -/
def idxFrom {α : Type} [DecidableEq α] (x : α) (i : Nat) : List α → Int
  | [] => -1
  | y :: r => if x = y then i else idxFrom x (i + 1) r

def F_IndexS : List AV → Option AV
  | [.sl a, .str s] => match decStrs a with
    | some x => if x.length ≤ big then some (.int .i64 (idxFrom s 0 x)) else none
    | none => none
  | _ => none

theorem indexS_loop (G : Gam) (r : AV) (xs : List Bs) (s : Bs) (hb : xs.length ≤ big) : ∀ (rest : List Bs) (i : Nat), xs.drop i = rest → i + rest.length = xs.length → r = .int .i64 (idxFrom s i rest) →
    headM G [5] Mc.slices_Index___string_string__L0 0 [.blk 0, .seq (.seq (.reg [⟨none, some 4, true, .mv, [.c (.int .i64 (-1))]⟩]) .ret)] (pureQ Rs.slices_Index___string_string_ r)
    [(0, .sl (encStrs xs)), (1, .str s), (4, .int .i64 0), (5, .junk), (7, .int .i64 xs.length), (8, .int .i64 i)] []
  | [], i, hd, hn, hr => by
    refine head_go (Mc.slices_Index___string_string__L0.eq_1) ?_
    simp at hn
    simp [idxFrom] at hr
    subst hr
    simp [junkAll, trunc, lowFr, low, lowH, lowB, binAV, intBin, ltB, eqB, hn, pureQ, Rs.slices_Index___string_string_, resAV, resL, resOne, view]
  | x :: rest, i, hd, hn, hr => by
    refine head_go (Mc.slices_Index___string_string__L0.eq_1) ?_
    simp at hn
    have hi : (i : Int) < xs.length := by omega
    have hx : xs[i]? = some x := by have := congrArg (·[0]?) hd; simpa using this
    have hxd : xs.drop (i + 1) = rest := by rw [← List.drop_drop, hd]; rfl
    have hw : IntKind.i64.wrap ((i : Int) + 1) = ((i + 1 : Nat) : Int) := by unfold big at hb; rw [i64_in _ (by omega)]; rfl
    by_cases he : s = x
    · have hbe : (s == x) = true := by simp [he]
      simp only [idxFrom, if_pos he] at hr
      subst hr
      simp [junkAll, trunc, lowFr, low, lowH, lowB, binAV, intBin, ltB, eqB, hi, iadr_sl (encStrs_get hx), cut, strBin, hbe, pureQ, Rs.slices_Index___string_string_, resAV, resL, resOne, view]
    · have hbe : (s == x) = false := by simp [he]
      simp only [idxFrom, if_neg he] at hr
      simp [junkAll, trunc, lowFr, low, lowH, lowB, binAV, intBin, ltB, eqB, hi, iadr_sl (encStrs_get hx), cut, strBin, hbe, hw]
      refine head_of ?_
      have ih := indexS_loop G r xs s hb rest (i + 1) hxd (by omega) hr
      simpa [junkAll, trunc, lowFr, low, lowH, lowB] using ih

theorem indexS_ok (G : Gam) (args : List AV) (r : AV) (h : F_IndexS args = some r) : wpM G Mc.slices_Index___string_string_ (pureQ Rs.slices_Index___string_string_ r) [] (frInit Ks.slices_Index___string_string_ args) [] := by
  unfold F_IndexS at h
  split at h
  · rename_i a s
    split at h
    · rename_i xs h1
      have := decStrs_of h1; subst this
      split at h
      · rename_i hb
        injection h with h
        rw [wpM_go]
        have ih := indexS_loop G r xs s hb xs 0 rfl (by simp) h.symm
        simpa [Mc.slices_Index___string_string_, frInit, Ks.slices_Index___string_string_, lenAV] using ih
      · cases h
    · cases h
  · cases h

def F_ContainsS : List AV → Option AV
  | [.sl a, .str s] => match decStrs a with
    | some x => if x.length ≤ big then some (.bool (!ltB (idxFrom s 0 x) 0)) else none
    | none => none
  | _ => none

theorem containsS_ok (G : Gam) (hG : G Fn.slices_Index___string_string_ = some (.pure F_IndexS)) (args : List AV) (r : AV) (h : F_ContainsS args = some r) : wpM G Mc.slices_Contains___string_string_ (pureQ Rs.slices_Contains___string_string_ r) [] (frInit Ks.slices_Contains___string_string_ args) [] := by
  unfold F_ContainsS at h
  split at h
  · rename_i a s
    split at h
    · rename_i xs h1
      split at h
      · rename_i hb
        injection h with h
        subst h
        have hc : ∀ s2 h, opV G s2 h (.call Fn.slices_Index___string_string_) (some [.sl a, .str s]) = some (.int .i64 (idxFrom s 0 xs), h) := fun s2 h => op_call hG rfl (by simp [F_IndexS, h1, hb]) (.inl rfl)
        rw [wpM_go]
        simp [Mc.slices_Contains___string_string_, frInit, Ks.slices_Contains___string_string_, hc, pureQ, Rs.slices_Contains___string_string_, resAV, resL, resOne, view]
      · cases h
    · cases h
  · cases h

/-! ### slices.Index, slices.Contains -/
def F_IndexI : List AV → Option AV
  | [.sl a, .int .i64 s] => match decInts a with
    | some x => if x.length ≤ big then some (.int .i64 (idxFrom s 0 x)) else none
    | none => none
  | _ => none

theorem indexI_loop (G : Gam) (r : AV) (xs : List Int) (s : Int) (hb : xs.length ≤ big) : ∀ (rest : List Int) (i : Nat), xs.drop i = rest → i + rest.length = xs.length → r = .int .i64 (idxFrom s i rest) →
    headM G [5] Mc.slices_Index___int_int__L0 0 [.blk 0, .seq (.seq (.reg [⟨none, some 4, true, .mv, [.c (.int .i64 (-1))]⟩]) .ret)] (pureQ Rs.slices_Index___int_int_ r)
    [(0, .sl (encInts xs)), (1, .int .i64 s), (4, .int .i64 0), (5, .junk), (7, .int .i64 xs.length), (8, .int .i64 i)] []
  | [], i, hd, hn, hr => by
    refine head_go (Mc.slices_Index___int_int__L0.eq_1) ?_
    simp at hn
    simp [idxFrom] at hr
    subst hr
    simp [junkAll, trunc, lowFr, low, lowH, lowB, binAV, intBin, ltB, eqB, hn, pureQ, Rs.slices_Index___int_int_, resAV, resL, resOne, view]
  | x :: rest, i, hd, hn, hr => by
    refine head_go (Mc.slices_Index___int_int__L0.eq_1) ?_
    simp at hn
    have hi : (i : Int) < xs.length := by omega
    have hx : xs[i]? = some x := by have := congrArg (·[0]?) hd; simpa using this
    have hxd : xs.drop (i + 1) = rest := by rw [← List.drop_drop, hd]; rfl
    have hw : IntKind.i64.wrap ((i : Int) + 1) = ((i + 1 : Nat) : Int) := by unfold big at hb; rw [i64_in _ (by omega)]; rfl
    by_cases he : s = x
    · have hbe : (s == x) = true := by simp [he]
      simp only [idxFrom, if_pos he] at hr
      subst hr
      simp [junkAll, trunc, lowFr, low, lowH, lowB, binAV, intBin, ltB, eqB, hi, iadr_sl (encInts_get hx), cut, strBin, hbe, pureQ, Rs.slices_Index___int_int_, resAV, resL, resOne, view]
    · have hbe : (s == x) = false := by simp [he]
      simp only [idxFrom, if_neg he] at hr
      simp [junkAll, trunc, lowFr, low, lowH, lowB, binAV, intBin, ltB, eqB, hi, iadr_sl (encInts_get hx), cut, strBin, hbe, hw]
      refine head_of ?_
      have ih := indexI_loop G r xs s hb rest (i + 1) hxd (by omega) hr
      simpa [junkAll, trunc, lowFr, low, lowH, lowB] using ih

theorem indexI_ok (G : Gam) (args : List AV) (r : AV) (h : F_IndexI args = some r) : wpM G Mc.slices_Index___int_int_ (pureQ Rs.slices_Index___int_int_ r) [] (frInit Ks.slices_Index___int_int_ args) [] := by
  unfold F_IndexI at h
  split at h
  · rename_i a s
    split at h
    · rename_i xs h1
      have := decInts_of h1; subst this
      split at h
      · rename_i hb
        injection h with h
        rw [wpM_go]
        have ih := indexI_loop G r xs s hb xs 0 rfl (by simp) h.symm
        simpa [Mc.slices_Index___int_int_, frInit, Ks.slices_Index___int_int_, lenAV] using ih
      · cases h
    · cases h
  · cases h

def F_ContainsI : List AV → Option AV
  | [.sl a, .int .i64 s] => match decInts a with
    | some x => if x.length ≤ big then some (.bool (!ltB (idxFrom s 0 x) 0)) else none
    | none => none
  | _ => none

theorem containsI_ok (G : Gam) (hG : G Fn.slices_Index___int_int_ = some (.pure F_IndexI)) (args : List AV) (r : AV) (h : F_ContainsI args = some r) : wpM G Mc.slices_Contains___int_int_ (pureQ Rs.slices_Contains___int_int_ r) [] (frInit Ks.slices_Contains___int_int_ args) [] := by
  unfold F_ContainsI at h
  split at h
  · rename_i a s
    split at h
    · rename_i xs h1
      split at h
      · rename_i hb
        injection h with h
        subst h
        have hc : ∀ s2 h, opV G s2 h (.call Fn.slices_Index___int_int_) (some [.sl a, .int .i64 s]) = some (.int .i64 (idxFrom s 0 xs), h) := fun s2 h => op_call hG rfl (by simp [F_IndexI, h1, hb]) (.inl rfl)
        rw [wpM_go]
        simp [Mc.slices_Contains___int_int_, frInit, Ks.slices_Contains___int_int_, hc, pureQ, Rs.slices_Contains___int_int_, resAV, resL, resOne, view]
      · cases h
    · cases h
  · cases h

end Go.Proofs.YtmjdgpiofhildaaGreatDoor
