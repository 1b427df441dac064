/- Parts of paths: cmp.Less, slices.IsSorted, tree.part and what it calls. -/
import Derived.Test.YtmjdgpiofhildaaDoorRecA
namespace Go.Proofs.YtmjdgpiofhildaaDoor
open Go.RowKit Go.IntWalk

/-! ### cmp.Less, slices.IsSorted -/
def F_isNaN : List AV → Option AV := F1 eStr eBool fun _ => some false
theorem isNaN_ok (G : Gam) : ∀ args r, F_isNaN args = some r → wpM G Mc.cmp_isNaN_string_ (pureQ Rs.cmp_isNaN_string_ r) [] (frInit Ks.cmp_isNaN_string_ args) [] := F1_ok fun x r h => by
  injection h with h; subst h
  rw [wpM_go]
  simp [Mc.cmp_isNaN_string_, frInit, Ks.cmp_isNaN_string_, Rs.cmp_isNaN_string_, eStr, eBool]

def F_Less : List AV → Option AV := F2 eStr eStr eBool fun a b => some (Op.bytesLess a b)
theorem Less_ok (G : Gam) (hG : G Fn.cmp_isNaN_string_ = some (.pure F_isNaN)) : ∀ args r, F_Less args = some r → wpM G Mc.cmp_Less_string_ (pureQ Rs.cmp_Less_string_ r) [] (frInit Ks.cmp_Less_string_ args) [] := F2_ok fun x y r h => by
  injection h with h; subst h
  rw [wpM_go]
  have hc : ∀ s h x, opV G s h (.call Fn.cmp_isNaN_string_) (some [.str x]) = some (.bool false, h) := fun s h x => op_call hG rfl (F1_use (A := eStr) (R := eBool) (x := x) (r := false) rfl) (.inl rfl)
  simp [Mc.cmp_Less_string_, frInit, Ks.cmp_Less_string_, Rs.cmp_Less_string_, eStr, eBool, hc]

/-- Each string is not less than the one before it, from the end down. -/
def sortedTo (xs : List Bs) : Nat → Bool
  | 0 => true
  | 1 => true
  | n + 2 => match xs[n + 1]?, xs[n]? with
    | some a, some b => !(Op.bytesLess a b) && sortedTo xs (n + 1)
    | _, _ => true
def F_IsSorted : List AV → Option AV := F1 (eSl rStr) eBool fun xs => if xs.length ≤ big then some (sortedTo xs xs.length) else none

theorem IsSorted_loop (G : Gam) (hG : G Fn.cmp_Less_string_ = some (.pure F_Less)) (xs : List Bs) (hb : xs.length ≤ big) : ∀ (n : Nat) (r : Bool), n ≤ xs.length → r = sortedTo xs n →
    headM G [] Mc.slices_IsSorted___string_string__L0 0 [.blk 0, .seq (.seq (.reg [⟨none, some 2, true, .mv, [.c (.bool true)]⟩]) .ret)] (pureQ Rs.slices_IsSorted___string_string_ (.bool r))
    [(0, .sl (xs.map rStr.enc)), (2, .bool false), (3, .int .i64 ((n : Int) - 1))] []
  | 0, r, hn, hr => by
    refine head_go (Mc.slices_IsSorted___string_string__L0.eq_1) ?_
    subst hr
    simp [sortedTo, ltB, trunc, Rs.slices_IsSorted___string_string_]
  | 1, r, hn, hr => by
    refine head_go (Mc.slices_IsSorted___string_string__L0.eq_1) ?_
    subst hr
    simp [sortedTo, ltB, trunc, Rs.slices_IsSorted___string_string_]
  | n + 2, r, hn, hr => by
    have h1 : xs[n + 1]? = some (xs[n + 1]'(by omega)) := by simp
    have h2 : xs[n]? = some (xs[n]'(by omega)) := by simp
    generalize xs[n + 1]'(by omega) = a at h1
    generalize xs[n]'(by omega) = b at h2
    simp only [sortedTo, h1, h2] at hr
    have r1 : (xs.map rStr.enc)[n + 1]? = some [.str a] := by simp [h1, rStr, rOne, eStr]
    have r2 : (xs.map rStr.enc)[n]? = some [.str b] := by simp [h2, rStr, rOne, eStr]
    have hc : ∀ s h, opV G s h (.call Fn.cmp_Less_string_) (some [.str a, .str b]) = some (.bool (Op.bytesLess a b), h) := fun s h => op_call hG rfl (F2_use (A := eStr) (B := eStr) (R := eBool) (x := a) (y := b) rfl) (.inl rfl)
    have e1 : (((n + 2 : Nat) : Int) - 1) = ((n + 1 : Nat) : Int) := by omega
    have w1 : IntKind.i64.wrap (((n + 1 : Nat) : Int) - 1) = ((n : Nat) : Int) := by unfold big at hb; rw [i64_in _ (by omega)]; omega
    have p1 : (0 : Int) < ((n + 1 : Nat) : Int) := by omega
    rw [e1]
    refine head_go (Mc.slices_IsSorted___string_string__L0.eq_1) ?_
    cases hl : Op.bytesLess a b with
    | true =>
      simp only [hl] at hr; simp at hr; subst hr
      simp [-Int.natCast_add, ltB, p1, trunc, iadr_sl r1, iadr_sl r2, w1, hc, hl, Rs.slices_IsSorted___string_string_]
    | false =>
      simp only [hl] at hr; simp at hr
      have ih := IsSorted_loop G hG xs hb (n + 1) r (by omega) hr
      simp [-Int.natCast_add, ltB, p1, trunc, iadr_sl r1, iadr_sl r2, w1, hc, hl]
      refine head_of ?_
      simpa [trunc] using ih

/-! ### strings.indexFunc -/
theorem op_nxt {G : Gam} {s : Bool} {h : Heap} {str : Bs} {l pos : Nat} (hl : h[l]? = some (.iter str pos)) : opV G s h .nxt (some [.ptr l 0]) = if pos < str.length then some (.tup [.bool true, .int .i64 pos, .int .i32 (Utf8.decode ⟨str.toArray⟩ pos).1], h.set l (.iter str (pos + (Utf8.decode ⟨str.toArray⟩ pos).2))) else some (.tup [.bool false], h) := by
  rw [opV_eff rfl]; simp only [evalEff, hl]
theorem set_last {h : Heap} {x y : Blk} : (h ++ [x]).set h.length y = h ++ [y] := by simp
@[simp] theorem op_rng {G : Gam} {s : Bool} {h : Heap} {str : Bs} : opV G s h .rng (some [.str str]) = some (.ptr h.length 0, h ++ [.iter str 0]) := by rw [opV_eff rfl]; rfl
theorem trunc_len {n : Nat} {fr : List (Nat × AV)} {h : Heap} (hl : h.length = n) : trunc n fr h = h := by subst hl; exact trunc_self

/-- The first place whose rune a closure says 'truth' of. -/
noncomputable def runesA (G : Gam) (h : Heap) (f : FuncId) (caps : List AV) (truth : Bool) (s : Bs) : Nat → Nat → Option Int
  | 0, _ => none
  | n + 1, pos => if pos < s.length then (match ask G (h ++ [.iter s (pos + (Utf8.decode ⟨s.toArray⟩ pos).2)]) f caps (.int .i32 (Utf8.decode ⟨s.toArray⟩ pos).1) with
      | some b => if b = truth then some pos else runesA G h f caps truth s n (pos + (Utf8.decode ⟨s.toArray⟩ pos).2)
      | none => none) else some (-1)

noncomputable def F_indexFunc (G : Gam) : List AV → Heap → Option AV
  | [.str s, .fn f caps, .bool truth], h => (runesA G h f caps truth s (s.length + 1) 0).map (.int .i64)
  | _, _ => none
noncomputable def F_strIndexFunc (G : Gam) : List AV → Heap → Option AV
  | [.str s, .fn f caps], h => (runesA G h f caps true s (s.length + 1) 0).map (.int .i64)
  | _, _ => none
noncomputable def F_strContainsFunc (G : Gam) : List AV → Heap → Option AV
  | [.str s, .fn f caps], h => (runesA G h f caps true s (s.length + 1) 0).map fun i => .bool (!ltB i 0)
  | _, _ => none

theorem indexFunc_loop (G : Gam) (h : Heap) (s : Bs) (f : FuncId) (caps : List AV) (truth : Bool) : ∀ (n pos : Nat) (v : Int), runesA G h f caps truth s n pos = some v →
    headM G [7, 8, 11] Mc.strings_indexFunc_L0 (h.length + 1) [.blk 0, .seq (.seq (.reg [⟨none, some 6, true, .mv, [.c (.int .i64 (-1))]⟩]) .ret)] (lookQ Rs.strings_indexFunc (.int .i64 v) h)
    [(0, .str s), (1, .fn f caps), (2, .bool truth), (6, .int .i64 0), (7, .junk), (8, .junk), (10, .ptr h.length 0), (11, .junk)] (h ++ [.iter s pos])
  | 0, pos, v, hv => by simp [runesA] at hv
  | n + 1, pos, v, hv => by
    refine head_go (Mc.strings_indexFunc_L0.eq_1) ?_
    rw [trunc_len (by simp)]
    have hn := fun s' => op_nxt (G := G) (s := s') (h := h ++ [.iter s pos]) (str := s) (l := h.length) (pos := pos) (by simp)
    simp only [runesA] at hv
    by_cases hp : pos < s.length
    · simp only [hp, if_true] at hv
      cases ha : ask G (h ++ [.iter s (pos + (Utf8.decode ⟨s.toArray⟩ pos).2)]) f caps (.int .i32 (Utf8.decode ⟨s.toArray⟩ pos).1) with
      | none => simp [ha] at hv
      | some b =>
        have hc := ask_call ha
        simp only [ha] at hv
        by_cases hb : b = truth
        · simp only [hb, if_true, Option.some.injEq] at hv; subst hv hb
          simp [hn, hp, set_last, hc, lookQ, Rs.strings_indexFunc, owns, freezeAll]
        · simp only [hb, if_false] at hv
          have hb' : (b == truth) = false := by simp [hb]
          simp [hn, hp, set_last, hc, hb']
          refine head_of ?_
          have ih := indexFunc_loop G h s f caps truth n _ v hv
          rw [trunc_len (by simp)]
          simpa using ih
    · simp only [hp, if_false, Option.some.injEq] at hv; subst hv
      simp [hn, hp, lookQ, Rs.strings_indexFunc, owns, freezeAll]

theorem indexFunc_ok (G : Gam) : ∀ args h r, F_indexFunc G args h = some r → wpM G Mc.strings_indexFunc (lookQ Rs.strings_indexFunc r h) [] (frInit Ks.strings_indexFunc args) h := by
  intro args h r hF
  match args, hF with
  | [.str s, .fn f caps, .bool truth], hF =>
    simp only [F_indexFunc, Option.map_eq_some_iff] at hF
    obtain ⟨v, hv, rfl⟩ := hF
    rw [wpM_go]
    have ih := indexFunc_loop G h s f caps truth _ 0 v hv
    simpa [Mc.strings_indexFunc, frInit, Ks.strings_indexFunc] using ih

theorem strIndexFunc_ok (G G0 : Gam) (hG : G Fn.strings_indexFunc = some (.gen (lookF (F_indexFunc G0)))) : ∀ args h r, F_strIndexFunc G0 args h = some r → wpM G Mc.strings_IndexFunc (lookQ Rs.strings_IndexFunc r h) [] (frInit Ks.strings_IndexFunc args) h := by
  intro args h r hF
  match args, hF with
  | [.str s, .fn f caps], hF =>
    simp only [F_strIndexFunc, Option.map_eq_some_iff] at hF
    obtain ⟨v, hv, rfl⟩ := hF
    rw [wpM_go]
    have hc : opV G false h (.call Fn.strings_indexFunc) (some [.str s, .fn f caps, .bool true]) = some (.int .i64 v, h) := by rw [op_call_gen hG]; simp [lookF, F_indexFunc, hv]
    simp [Mc.strings_IndexFunc, frInit, Ks.strings_IndexFunc, hc, lookQ, Rs.strings_IndexFunc, owns, freezeAll]

theorem strContainsFunc_ok (G G0 : Gam) (hG : G Fn.strings_IndexFunc = some (.gen (lookF (F_strIndexFunc G0)))) : ∀ args h r, F_strContainsFunc G0 args h = some r → wpM G Mc.strings_ContainsFunc (lookQ Rs.strings_ContainsFunc r h) [] (frInit Ks.strings_ContainsFunc args) h := by
  intro args h r hF
  match args, hF with
  | [.str s, .fn f caps], hF =>
    simp only [F_strContainsFunc, Option.map_eq_some_iff] at hF
    obtain ⟨v, hv, rfl⟩ := hF
    rw [wpM_go]
    have hc : opV G false h (.call Fn.strings_IndexFunc) (some [.str s, .fn f caps]) = some (.int .i64 v, h) := by rw [op_call_gen hG]; simp [lookF, F_strIndexFunc, hv]
    simp [Mc.strings_ContainsFunc, frInit, Ks.strings_ContainsFunc, hc, lookQ, Rs.strings_ContainsFunc, owns, freezeAll]

/-! ### tree.part -/
/-- May the letter stand in a part of a path? -/
def pch (n : Int) : Bool := (!ltB n 97 && !ltB 122 n) || (!ltB n 48 && !ltB 57 n) || eqB n 46 || eqB n 95 || eqB n 45

def F_part1 : List AV → Option AV := F1 (eKind .i32) eBool fun n => some (!pch n)
theorem part1_ok (G : Gam) : ∀ args r, F_part1 args = some r → wpM G Mc.tree_part_1 (pureQ Rs.tree_part_1 r) [] (frInit Ks.tree_part_1 args) [] := F1_ok fun x r h => by
  injection h with h; subst h
  rw [wpM_go]
  simp +contextual [Mc.tree_part_1, frInit, Ks.tree_part_1, Rs.tree_part_1, eKind, eBool, bind_ite, ite_bool, ite_and, pch]

end Go.Proofs.YtmjdgpiofhildaaDoor
