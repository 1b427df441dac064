/- slices.IndexFunc and ContainsFunc, at this program's types: by program. -/
import Derived.Test.YtmjdgpiofhildaaDoorRecMc
import Derived.Test.YtmjdgpiofhildaaDoorAbs26
namespace Go.Proofs.YtmjdgpiofhildaaDoor
open Go.RowKit Go.IntWalk

/-! ### slices_IndexFunc_api_Record_api_Done_ -/
theorem idxf_loop_slices_IndexFunc_api_Record_api_Done_ (G : Gam) (h : Heap) (rows : List (List AV)) (f : FuncId) (caps : List AV) (hb : rows.length ≤ big) : ∀ (rest : List (List AV)) (i : Nat) (v : Int), rows.drop i = rest → findA (fun row => if row.length = 6 then (mkVal true 6 row).bind (ask G h f caps) else none) i rest = some v →
    headM G [5] Mc.slices_IndexFunc_api_Record_api_Done__L0 h.length [.blk 0, .seq (.seq (.reg [⟨none, some 4, true, .mv, [.c (.int .i64 (-1))]⟩]) .ret)] (lookQ Rs.slices_IndexFunc_api_Record_api_Done_ (.int .i64 v) h)
    [(0, .sl rows), (1, .fn f caps), (4, .int .i64 0), (5, .junk), (7, .int .i64 rows.length), (8, .int .i64 i)] h
  | [], i, v, hd, hv => by
    have hi := drop_nil hd
    have hi' : ¬ (i : Int) < rows.length := by omega
    simp only [findA, Option.some.injEq] at hv; subst hv
    refine head_go (Mc.slices_IndexFunc_api_Record_api_Done__L0.eq_1) ?_
    simp [ltB, hi', lookQ, Rs.slices_IndexFunc_api_Record_api_Done_, owns, freezeAll]
  | x :: rest, i, v, hd, hv => by
    obtain ⟨hi, hx, hxd⟩ := drop_cons hd
    have hi' : (i : Int) < rows.length := by omega
    have hw := wrap1 (i := i) (by omega)
    by_cases hl : x.length = 6
    · simp only [findA, hl, if_true] at hv
      cases hm : mkVal true 6 x with
      | none => simp [hm] at hv
      | some a =>
        simp only [hm, Option.bind_some] at hv
        have hcut : mkVal true 6 (cut x 0 6) = some a := by rw [cut_all hl]; exact hm
        cases ha : ask G h f caps a with
        | none => simp [ha] at hv
        | some b =>
          have hc := ask_call ha
          simp only [ha] at hv
          refine head_go (Mc.slices_IndexFunc_api_Record_api_Done__L0.eq_1) ?_
          cases b with
          | true =>
            simp only [Option.some.injEq] at hv; subst hv
            simp [ltB, hi', iadr_sl hx hl, hcut, hc, lookQ, Rs.slices_IndexFunc_api_Record_api_Done_, owns, freezeAll]
          | false =>
            simp [ltB, hi', iadr_sl hx hl, hcut, hc, hw]
            refine head_of ?_
            have ih := idxf_loop_slices_IndexFunc_api_Record_api_Done_ G h rows f caps hb rest (i + 1) v hxd hv
            simpa using ih
    · simp [findA, hl] at hv

theorem idxf_ok_slices_IndexFunc_api_Record_api_Done_ (G : Gam) : ∀ args h r, F_IndexFunc true 6 G args h = some r → wpM G Mc.slices_IndexFunc_api_Record_api_Done_ (lookQ Rs.slices_IndexFunc_api_Record_api_Done_ r h) [] (frInit Ks.slices_IndexFunc_api_Record_api_Done_ args) h := by
  intro args h r hF
  obtain ⟨rows, f, caps, v, rfl, hb, hv, rfl⟩ := F_IndexFunc_inv hF
  rw [wpM_go]
  have ih := idxf_loop_slices_IndexFunc_api_Record_api_Done_ G h rows f caps hb rows 0 v rfl hv
  simpa [Mc.slices_IndexFunc_api_Record_api_Done_, frInit, Ks.slices_IndexFunc_api_Record_api_Done_] using ih

/-! ### slices_IndexFunc___api_Touch_api_Touch_ -/
theorem idxf_loop_slices_IndexFunc___api_Touch_api_Touch_ (G : Gam) (h : Heap) (rows : List (List AV)) (f : FuncId) (caps : List AV) (hb : rows.length ≤ big) : ∀ (rest : List (List AV)) (i : Nat) (v : Int), rows.drop i = rest → findA (fun row => if row.length = 2 then (mkVal true 2 row).bind (ask G h f caps) else none) i rest = some v →
    headM G [5] Mc.slices_IndexFunc___api_Touch_api_Touch__L0 h.length [.blk 0, .seq (.seq (.reg [⟨none, some 4, true, .mv, [.c (.int .i64 (-1))]⟩]) .ret)] (lookQ Rs.slices_IndexFunc___api_Touch_api_Touch_ (.int .i64 v) h)
    [(0, .sl rows), (1, .fn f caps), (4, .int .i64 0), (5, .junk), (7, .int .i64 rows.length), (8, .int .i64 i)] h
  | [], i, v, hd, hv => by
    have hi := drop_nil hd
    have hi' : ¬ (i : Int) < rows.length := by omega
    simp only [findA, Option.some.injEq] at hv; subst hv
    refine head_go (Mc.slices_IndexFunc___api_Touch_api_Touch__L0.eq_1) ?_
    simp [ltB, hi', lookQ, Rs.slices_IndexFunc___api_Touch_api_Touch_, owns, freezeAll]
  | x :: rest, i, v, hd, hv => by
    obtain ⟨hi, hx, hxd⟩ := drop_cons hd
    have hi' : (i : Int) < rows.length := by omega
    have hw := wrap1 (i := i) (by omega)
    by_cases hl : x.length = 2
    · simp only [findA, hl, if_true] at hv
      cases hm : mkVal true 2 x with
      | none => simp [hm] at hv
      | some a =>
        simp only [hm, Option.bind_some] at hv
        have hcut : mkVal true 2 (cut x 0 2) = some a := by rw [cut_all hl]; exact hm
        cases ha : ask G h f caps a with
        | none => simp [ha] at hv
        | some b =>
          have hc := ask_call ha
          simp only [ha] at hv
          refine head_go (Mc.slices_IndexFunc___api_Touch_api_Touch__L0.eq_1) ?_
          cases b with
          | true =>
            simp only [Option.some.injEq] at hv; subst hv
            simp [ltB, hi', iadr_sl hx hl, hcut, hc, lookQ, Rs.slices_IndexFunc___api_Touch_api_Touch_, owns, freezeAll]
          | false =>
            simp [ltB, hi', iadr_sl hx hl, hcut, hc, hw]
            refine head_of ?_
            have ih := idxf_loop_slices_IndexFunc___api_Touch_api_Touch_ G h rows f caps hb rest (i + 1) v hxd hv
            simpa using ih
    · simp [findA, hl] at hv

theorem idxf_ok_slices_IndexFunc___api_Touch_api_Touch_ (G : Gam) : ∀ args h r, F_IndexFunc true 2 G args h = some r → wpM G Mc.slices_IndexFunc___api_Touch_api_Touch_ (lookQ Rs.slices_IndexFunc___api_Touch_api_Touch_ r h) [] (frInit Ks.slices_IndexFunc___api_Touch_api_Touch_ args) h := by
  intro args h r hF
  obtain ⟨rows, f, caps, v, rfl, hb, hv, rfl⟩ := F_IndexFunc_inv hF
  rw [wpM_go]
  have ih := idxf_loop_slices_IndexFunc___api_Touch_api_Touch_ G h rows f caps hb rows 0 v rfl hv
  simpa [Mc.slices_IndexFunc___api_Touch_api_Touch_, frInit, Ks.slices_IndexFunc___api_Touch_api_Touch_] using ih

theorem contf_ok_slices_ContainsFunc___api_Touch_api_Touch_ (G G0 : Gam) (hG : G Fn.slices_IndexFunc___api_Touch_api_Touch_ = some (.gen (lookF (F_IndexFunc true 2 G0)))) : ∀ args h r, F_ContainsFunc true 2 G0 args h = some r → wpM G Mc.slices_ContainsFunc___api_Touch_api_Touch_ (lookQ Rs.slices_ContainsFunc___api_Touch_api_Touch_ r h) [] (frInit Ks.slices_ContainsFunc___api_Touch_api_Touch_ args) h := by
  intro args h r hF
  obtain ⟨rows, f, caps, v, rfl, hb, hv, rfl⟩ := F_ContainsFunc_inv hF
  rw [wpM_go]
  have hc : ∀ h0 : Heap, h0 = h → opV G false h0 (.call Fn.slices_IndexFunc___api_Touch_api_Touch_) (some [.sl rows, .fn f caps]) = some (.int .i64 v, h0) := fun h0 e => by subst e; rw [op_call_gen hG]; simp [lookF, F_IndexFunc, hb, hv]
  simp [Mc.slices_ContainsFunc___api_Touch_api_Touch_, frInit, Ks.slices_ContainsFunc___api_Touch_api_Touch_, hc, lookQ, Rs.slices_ContainsFunc___api_Touch_api_Touch_, owns, freezeAll]

/-! ### slices_IndexFunc___string_string_ -/
theorem idxf_loop_slices_IndexFunc___string_string_ (G : Gam) (h : Heap) (rows : List (List AV)) (f : FuncId) (caps : List AV) (hb : rows.length ≤ big) : ∀ (rest : List (List AV)) (i : Nat) (v : Int), rows.drop i = rest → findA (fun row => if row.length = 1 then (mkVal false 1 row).bind (ask G h f caps) else none) i rest = some v →
    headM G [5] Mc.slices_IndexFunc___string_string__L0 h.length [.blk 0, .seq (.seq (.reg [⟨none, some 4, true, .mv, [.c (.int .i64 (-1))]⟩]) .ret)] (lookQ Rs.slices_IndexFunc___string_string_ (.int .i64 v) h)
    [(0, .sl rows), (1, .fn f caps), (4, .int .i64 0), (5, .junk), (7, .int .i64 rows.length), (8, .int .i64 i)] h
  | [], i, v, hd, hv => by
    have hi := drop_nil hd
    have hi' : ¬ (i : Int) < rows.length := by omega
    simp only [findA, Option.some.injEq] at hv; subst hv
    refine head_go (Mc.slices_IndexFunc___string_string__L0.eq_1) ?_
    simp [ltB, hi', lookQ, Rs.slices_IndexFunc___string_string_, owns, freezeAll]
  | x :: rest, i, v, hd, hv => by
    obtain ⟨hi, hx, hxd⟩ := drop_cons hd
    have hi' : (i : Int) < rows.length := by omega
    have hw := wrap1 (i := i) (by omega)
    by_cases hl : x.length = 1
    · simp only [findA, hl, if_true] at hv
      cases hm : mkVal false 1 x with
      | none => simp [hm] at hv
      | some a =>
        simp only [hm, Option.bind_some] at hv
        have hcut : mkVal false 1 (cut x 0 1) = some a := by rw [cut_all hl]; exact hm
        cases ha : ask G h f caps a with
        | none => simp [ha] at hv
        | some b =>
          have hc := ask_call ha
          simp only [ha] at hv
          refine head_go (Mc.slices_IndexFunc___string_string__L0.eq_1) ?_
          cases b with
          | true =>
            simp only [Option.some.injEq] at hv; subst hv
            simp [ltB, hi', iadr_sl hx hl, hcut, hc, lookQ, Rs.slices_IndexFunc___string_string_, owns, freezeAll]
          | false =>
            simp [ltB, hi', iadr_sl hx hl, hcut, hc, hw]
            refine head_of ?_
            have ih := idxf_loop_slices_IndexFunc___string_string_ G h rows f caps hb rest (i + 1) v hxd hv
            simpa using ih
    · simp [findA, hl] at hv

theorem idxf_ok_slices_IndexFunc___string_string_ (G : Gam) : ∀ args h r, F_IndexFunc false 1 G args h = some r → wpM G Mc.slices_IndexFunc___string_string_ (lookQ Rs.slices_IndexFunc___string_string_ r h) [] (frInit Ks.slices_IndexFunc___string_string_ args) h := by
  intro args h r hF
  obtain ⟨rows, f, caps, v, rfl, hb, hv, rfl⟩ := F_IndexFunc_inv hF
  rw [wpM_go]
  have ih := idxf_loop_slices_IndexFunc___string_string_ G h rows f caps hb rows 0 v rfl hv
  simpa [Mc.slices_IndexFunc___string_string_, frInit, Ks.slices_IndexFunc___string_string_] using ih

theorem contf_ok_slices_ContainsFunc___string_string_ (G G0 : Gam) (hG : G Fn.slices_IndexFunc___string_string_ = some (.gen (lookF (F_IndexFunc false 1 G0)))) : ∀ args h r, F_ContainsFunc false 1 G0 args h = some r → wpM G Mc.slices_ContainsFunc___string_string_ (lookQ Rs.slices_ContainsFunc___string_string_ r h) [] (frInit Ks.slices_ContainsFunc___string_string_ args) h := by
  intro args h r hF
  obtain ⟨rows, f, caps, v, rfl, hb, hv, rfl⟩ := F_ContainsFunc_inv hF
  rw [wpM_go]
  have hc : ∀ h0 : Heap, h0 = h → opV G false h0 (.call Fn.slices_IndexFunc___string_string_) (some [.sl rows, .fn f caps]) = some (.int .i64 v, h0) := fun h0 e => by subst e; rw [op_call_gen hG]; simp [lookF, F_IndexFunc, hb, hv]
  simp [Mc.slices_ContainsFunc___string_string_, frInit, Ks.slices_ContainsFunc___string_string_, hc, lookQ, Rs.slices_ContainsFunc___string_string_, owns, freezeAll]

end Go.Proofs.YtmjdgpiofhildaaDoor
