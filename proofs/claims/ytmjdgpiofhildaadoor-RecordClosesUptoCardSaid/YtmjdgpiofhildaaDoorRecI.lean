/- The reference's Few; the law's touch and example. -/
import Derived.Test.YtmjdgpiofhildaaDoorRecH
namespace Go.Proofs.YtmjdgpiofhildaaDoor
open Go.RowKit Go.IntWalk

def bigT (t : Touch) : Bool := ltB 200 t.path.length || ltB 200 t.dig.length
def bigD (d : Done) : Bool := ltB 12 d.reads.length || ltB 200 d.wrote.path.length || ltB 200 d.wrote.dig.length
def fewD (d : Done) : Bool := !bigD d && d.reads.all fun t => !bigT t
def fewE (xs : List Done) : Bool := if 1024 < xs.length then true else if 12 < xs.length then false else xs.all fewD
def F_Few : List AV → Option AV := F1 (eSl rDone) eBool fun r => if okR r then some (fewE r) else none

attribute [local congr] ite_congr in
theorem Few_L1 (G : Gam) (xs : List Done) (i : Nat) (d : Done) (hx : xs[i]? = some d) (hb : d.reads.length ≤ 12) {ks : List MK} (b : Bool)
    (hk : (d.reads.all fun t => !bigT t) = true → exM G .normal ks (pureQ Rs.licitref17_Few (.bool b)) [(51, .bool false), (50, .int .i64 d.reads.length), (49, .sl (touchRows d.reads)), (48, .fptr d.row 3), (47, .fptr d.row 0), (46, .int .i64 i), (45, .sl (doneRows xs)), (44, .int .i64 d.reads.length)]
      [(0, .sl (doneRows xs)), (2, .bool false), (3, .int .i64 i), (4, .int .i64 d.reads.length)] [])
    (hr : (d.reads.all fun t => !bigT t) = false → b = false) :
    ∀ (rest : List Touch) (j : Nat), d.reads.drop j = rest → j ≤ d.reads.length → (rest.all fun t => !bigT t) = (d.reads.all fun t => !bigT t) →
    headM G [] Mc.licitref17_Few_L1 0 (.blk 2 :: ks) (pureQ Rs.licitref17_Few (.bool b))
    [(0, .sl (doneRows xs)), (2, .bool false), (3, .int .i64 i), (4, .int .i64 j)] []
  | [], j, hd, hj, ht => by
    have hi2 := drop_nil hd
    have e : j = d.reads.length := by omega
    have hia := fun h => iadr_sl (h := h) (k := .i64) (doneRows_get hx) d.row_len
    have hk' := hk (by rw [← ht]; rfl)
    simp only [Done.row] at hia hk'
    refine head_go (Mc.licitref17_Few_L1.eq_1) ?_
    simpa [trunc, hia, e] using hk'
  | t :: rest, j, hd, hj, ht => by
    obtain ⟨hi2, hxt, hxd⟩ := drop_cons hd
    have hi' : ltB j d.reads.length = true := ltB_iff.2 (by omega)
    have hw := wrap1 (i := j) (by unfold big; omega)
    have hia := fun h => iadr_sl (h := h) (k := .i64) (doneRows_get hx) d.row_len
    simp only [Done.row] at hia
    simp only [List.all_cons] at ht
    refine head_go (Mc.licitref17_Few_L1.eq_1) ?_
    cases hp : bigT t with
    | true =>
      simp only [hp, Bool.not_true, Bool.false_and] at ht
      have := hr ht.symm
      subst this
      unfold bigT at hp
      simp +contextual [trunc, hia, hi', iadr_sl (touchRows_get hxt)]
      rw [hp]
      simp [Rs.licitref17_Few]
    | false =>
      simp only [hp, Bool.not_false, Bool.true_and] at ht
      have ih := Few_L1 G xs i d hx hb b hk hr rest (j + 1) hxd (by omega) ht
      unfold bigT at hp
      simp +contextual [trunc, hia, hi', iadr_sl (touchRows_get hxt)]
      rw [hp]
      simp [hw]
      refine head_of ?_
      simpa [trunc] using ih

attribute [local congr] ite_congr in
theorem Few_L0 (G : Gam) (xs : List Done) (hb : xs.length ≤ 12) : ∀ (rest : List Done) (i : Nat), xs.drop i = rest →
    headM G [4] Mc.licitref17_Few_L0 0 [.blk 0, .seq (.seq (.reg [⟨none, some 2, true, .mv, [.c (.bool true)]⟩]) .ret)] (pureQ Rs.licitref17_Few (.bool (rest.all fewD)))
    [(0, .sl (doneRows xs)), (2, .bool false), (3, .int .i64 i), (4, .junk)] []
  | [], i, hd => by
    have hi := drop_nil hd
    have hi' : ltB i xs.length = false := ltB_not.2 (by omega)
    refine head_go (Mc.licitref17_Few_L0.eq_1) ?_
    simp [trunc, hi', Rs.licitref17_Few]
  | d :: rest, i, hd => by
    obtain ⟨hi, hx, hxd⟩ := drop_cons hd
    have hi' : ltB i xs.length = true := ltB_iff.2 (by omega)
    have hw := wrap1 (i := i) (by unfold big; omega)
    have hia := fun h => iadr_sl (h := h) (k := .i64) (doneRows_get hx) d.row_len
    have ih := Few_L0 G xs hb rest (i + 1) hxd
    simp only [Done.row] at hia
    refine head_go (Mc.licitref17_Few_L0.eq_1) ?_
    cases hp : bigD d with
    | true =>
      simp only [List.all_cons, fewD, hp, Bool.not_true, Bool.false_and]
      unfold bigD at hp
      simp +contextual [trunc, hia, hi']
      rw [hp]
      simp [Rs.licitref17_Few]
    | false =>
      simp only [List.all_cons, fewD, hp, Bool.not_false, Bool.true_and]
      have hrd : d.reads.length ≤ 12 := by
        simp only [bigD, Bool.or_eq_false_iff] at hp
        have := ltB_not.1 hp.1.1; omega
      have l1 := fun ks b hk hr => Few_L1 G xs i d hx hrd (ks := ks) b hk hr d.reads 0 rfl (by omega) rfl
      simp only [Int.natCast_zero, Done.row] at l1
      unfold bigD at hp
      simp +contextual [trunc, hia, hi', -List.all_eq_true]
      rw [hp]
      simp [-List.all_eq_true]
      refine l1 _ _ (fun ha => ?_) (fun ha => ?_)
      · rw [ha]
        simp [hw, -List.all_eq_true]
        refine head_of ?_
        simpa [trunc, -List.all_eq_true] using ih
      · rw [ha]; rfl

theorem Few_ok (G : Gam) : ∀ args r, F_Few args = some r → wpM G Mc.licitref17_Few (pureQ Rs.licitref17_Few r) [] (frInit Ks.licitref17_Few args) [] := F1_ok fun xs r h => by
  split at h
  · rename_i ho
    injection h with h; subst h
    rw [wpM_go, eSl_done]
    cases c1 : ltB 1024 xs.length with
    | true =>
      have := ltB_iff.1 c1
      have e : 1024 < xs.length := by omega
      simp [Mc.licitref17_Few, frInit, Ks.licitref17_Few, Rs.licitref17_Few, c1, fewE, e]
    | false =>
      have := ltB_not.1 c1
      have e : ¬ 1024 < xs.length := by omega
      cases c2 : ltB 12 xs.length with
      | true =>
        have := ltB_iff.1 c2
        have e2 : 12 < xs.length := by omega
        simp [Mc.licitref17_Few, frInit, Ks.licitref17_Few, Rs.licitref17_Few, c1, c2, fewE, e, e2]
      | false =>
        have := ltB_not.1 c2
        have e2 : ¬ 12 < xs.length := by omega
        have ih := Few_L0 G xs (by omega) xs 0 rfl
        have hf : fewE xs = xs.all fewD := by simp [fewE, e, e2]
        rw [hf]
        simpa [Mc.licitref17_Few, frInit, Ks.licitref17_Few, c1, c2, -List.all_eq_true] using ih
  · cases h

/-! ### The example -/
def F_touch : List AV → Option AV := F2 eStr eStr (eAgg rTouch) fun p l => if l.length = 1 then some ⟨p, Lib.repeatL l 32⟩ else none
theorem touch_ok (G : Gam) (hR : G Fn.strings_Repeat = some (.pure F_Repeat)) : ∀ args r, F_touch args = some r → wpM G Mc.licitlaw17_touch (pureQ Rs.licitlaw17_touch r) [] (frInit Ks.licitlaw17_touch args) [] := F2_ok fun p l r h => by
  split at h
  · rename_i hl
    injection h with h; subst h
    rw [wpM_go, eAgg_touch]
    have hc : ∀ st h, opV G st h (.call Fn.strings_Repeat) (some [.str l, .int .i64 32]) = some (.str (Lib.repeatL l 32), h) := fun st h => op_call hR rfl (F2_use (A := eStr) (B := eNat) (R := eStr) (x := l) (y := 32) (if_pos ⟨by omega, by decide⟩)) (.inl rfl)
    generalize Lib.repeatL l 32 = z at hc ⊢
    simp [Mc.licitlaw17_touch, frInit, Ks.licitlaw17_touch, hc, bldAV, Touch.row, Rs.licitlaw17_touch]
  · cases h

def ltr (c : UInt8) : Bs := Lib.repeatL [c] 32
def exampleD (c : UInt8) : List Done :=
  [⟨0, 0, 1, [⟨[97, 47, 120], ltr 120⟩], ⟨[97, 47, 111], ltr 111⟩⟩, ⟨0, 1, 4, [⟨[97, 47, 111], ltr 111⟩], ⟨[97, 47, 98], ltr c⟩⟩]
def F_example : List AV → Option AV := F1 eStr (eSl rDone) fun l => match l with | [c] => some (exampleD c) | _ => none
theorem example_ok (G : Gam) (hT : G Fn.licitlaw17_touch = some (.pure F_touch)) : ∀ args r, F_example args = some r → wpM G Mc.licitlaw17_example (pureQ Rs.licitlaw17_example r) [] (frInit Ks.licitlaw17_example args) [] := F1_ok fun l r h => by
  split at h
  · rename_i c
    injection h with h; subst h
    rw [wpM_go, eSl_done]
    have hc : ∀ st h p (b : UInt8), opV G st h (.call Fn.licitlaw17_touch) (some [.str p, .str [b]]) = some (.agg [.str p, .str (ltr b)], h) := fun st h p b => op_call hT rfl (F2_use (A := eStr) (B := eStr) (R := eAgg rTouch) (x := p) (y := [b]) (r := ⟨p, ltr b⟩) (if_pos rfl)) (.inr rfl)
    simp [Mc.licitlaw17_example, frInit, Ks.licitlaw17_example, hc, bldAV, sizesOk, onesOk, Rs.licitlaw17_example, exampleD, doneRows, touchRows, Done.row, Touch.row]
  · cases h

end Go.Proofs.YtmjdgpiofhildaaDoor
