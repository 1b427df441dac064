/- The faults of a step: record.touched, record.files. -/
import Derived.Test.YtmjdgpiofhildaaDoorRecP
import Derived.Test.YtmjdgpiofhildaaDoorRecDiv
namespace Go.Proofs.YtmjdgpiofhildaaDoor
open Go.RowKit Go.IntWalk

def touchedE (t : Touch) : Int := if pathOK t.path then (if t.dig.length = 32 then 0 else 17) else 2
def F_touched : List AV → Option AV := F1 (eAgg rTouch) eInt fun t => if okT t then some (touchedE t) else none
theorem touched_ok (G : Gam) (hG : G Fn.tree_Path = some (.pure F_Path)) : ∀ args r, F_touched args = some r → wpM G Mc.record_touched (pureQ Rs.record_touched r) [] (frInit Ks.record_touched args) [] := F1_ok fun t r h => by
  split at h
  · rename_i ho
    injection h with h; subst h
    rw [wpM_go, eAgg_touch]
    have hc : ∀ st h, opV G st h (.call Fn.tree_Path) (some [.str t.path]) = some (.int .i64 (if pathOK t.path then 0 else 2), h) := fun st h => op_call hG rfl (F1_use (A := eStr) (R := eInt) (x := t.path) (if_pos (by simpa [okT] using ho))) (.inl rfl)
    cases c1 : pathOK t.path with
    | false =>
      have e : eqB 2 0 = false := rfl
      simp [Mc.record_touched, frInit, Ks.record_touched, Touch.row, cut, hc, c1, e, touchedE, Rs.record_touched, eInt]
    | true =>
      by_cases c2 : t.dig.length = 32
      · have e : eqB (t.dig.length : Int) 32 = true := eqB_iff.2 (by omega)
        simp [Mc.record_touched, frInit, Ks.record_touched, Touch.row, cut, hc, c1, e, c2, touchedE, Rs.record_touched, eInt]
      · have e : eqB (t.dig.length : Int) 32 = false := eqB_not.2 (by omega)
        simp [Mc.record_touched, frInit, Ks.record_touched, Touch.row, cut, hc, c1, e, c2, touchedE, Rs.record_touched, eInt]
  · cases h

/-- The first fault of what is read; what has been read. -/
def readsE (m : List (Bs × Bs)) : List (Bs × Bool) → List Touch → Int × List (Bs × Bool)
  | own, [] => (0, own)
  | own, t :: ts =>
    if touchedE t = 0 then
      (if (lookM t.path own).getD false then (6, own)
       else if (lookM t.path m).any (fun d => d != t.dig) then (9, own)
       else readsE m (putM t.path true own) ts)
    else (touchedE t, own)
def filesE (m : List (Bs × Bs)) (s : Done) : Int :=
  if (readsE m [] s.reads).1 = 0 then
    (if touchedE s.wrote = 0 then
      (if (lookM s.wrote.path m).isSome || (lookM s.wrote.path (readsE m [] s.reads).2).getD false then 6 else 0)
     else touchedE s.wrote)
  else (readsE m [] s.reads).1

theorem touchedE_ok (G : Gam) (hG : G Fn.record_touched = some (.pure F_touched)) {t : Touch} (ho : okT t = true) (st : Bool) (h : Heap) : opV G st h (.call Fn.record_touched) (some [.agg [.str t.path, .str t.dig]]) = some (.int .i64 (touchedE t), h) :=
  op_call hG rfl (F1_use (A := eAgg rTouch) (R := eInt) (x := t) (if_pos ho)) (.inl rfl)

theorem op_st_ptr {G : Gam} {s : Bool} {h : Heap} {n l off : Nat} {v : AV} {vs : List AV} (hl : h[l]? = some (.cells vs)) (h1 : v.cells.length = n) (h2 : 0 < n) (h3 : v.cells.all oneC = true) (h4 : off + n ≤ vs.length) : opV G s h (.st n) (some [.ptr l off, v]) = some (.junk, h.set l (.cells (setAt vs off v.cells))) := by
  rw [op_st]; simp [h1, h2, h3, hl, h4]

theorem files_loop (G : Gam) (hG : G Fn.record_touched = some (.pure F_touched)) (m : List (Bs × Bs)) (c : List AV) (s : Done) (hb : s.reads.length ≤ big) (ho : s.reads.all okT = true) {ks : List MK} (r : Int) (own0 : List (Bs × Bool)) (hlow : lowL 4 c = true)
    (hr : (readsE m [] s.reads).1 ≠ 0 → r = (readsE m [] s.reads).1)
    (hk : (readsE m [] s.reads).1 = 0 → exM G .normal ks (lookQ Rs.record_files (.int .i64 r) [.map (encM eStr m), .cells c]) [(19, .bool false)]
      [(0, .agg s.row), (1, .map 0), (2, .ptr 2 0), (4, .int .i64 0), (5, .map 3), (7, .junk), (8, .junk), (9, .junk), (10, .junk), (11, .junk), (13, .junk), (16, .sl (touchRows s.reads)), (17, .int .i64 s.reads.length), (18, .int .i64 s.reads.length)] [.map (encM eStr m), .cells c, .cells s.row, .map (encM eBool (readsE m [] s.reads).2)]) :
    ∀ (rest : List Touch) (i : Nat) (own : List (Bs × Bool)), s.reads.drop i = rest → readsE m own rest = readsE m [] s.reads → i ≤ s.reads.length →
    headM G [7, 8, 9, 10] Mc.record_files_L0 4 (.blk 0 :: ks) (lookQ Rs.record_files (.int .i64 r) [.map (encM eStr m), .cells c])
    [(0, .agg s.row), (1, .map 0), (2, .ptr 2 0), (4, .int .i64 0), (5, .map 3), (7, .junk), (8, .junk), (9, .junk), (10, .junk), (11, .junk), (13, .junk), (16, .sl (touchRows s.reads)), (17, .int .i64 s.reads.length), (18, .int .i64 i)] [.map (encM eStr m), .cells c, .cells s.row, .map (encM eBool own)]
  | [], i, own, hd, he, hi => by
    have hi2 := drop_nil hd
    have e : i = s.reads.length := by omega
    simp only [readsE] at he
    have hk' := hk (by rw [← he])
    rw [← he] at hk'
    refine head_go (Mc.record_files_L0.eq_1) ?_
    simpa [trunc, hlow, Done.row, e] using hk'
  | t :: rest, i, own, hd, he, hi => by
    obtain ⟨hi2, hx, hxd⟩ := drop_cons hd
    have hi' : ltB i s.reads.length = true := ltB_iff.2 (by omega)
    have hw := wrap1 (i := i) (by omega)
    have hot : okT t = true := List.all_eq_true.1 ho t (List.mem_of_getElem? hx)
    have hc := touchedE_ok G hG hot
    have ih := fun own h => files_loop G hG m c s hb ho r own0 hlow hr hk rest (i + 1) own hxd h (by omega)
    simp only [readsE] at he
    refine head_go (Mc.record_files_L0.eq_1) ?_
    have hl1 : ∀ st x, opV G st [.map (encM eStr m), .cells c, .cells s.row, .map (encM eBool own), x] (.look .s false (.bool false)) (some [.map 3, .str t.path]) = some (.bool ((lookM t.path own).getD false), [.map (encM eStr m), .cells c, .cells s.row, .map (encM eBool own), x]) := fun st x => by
      rw [op_look (V := eBool) (m := own) rfl]; cases lookM t.path own <;> rfl
    have hl2 : ∀ st x, opV G st [.map (encM eStr m), .cells c, .cells s.row, .map (encM eBool own), x] (.look .s true (.str [])) (some [.map 0, .str t.path]) = some (.tup [.str ((lookM t.path m).getD []), .bool (lookM t.path m).isSome], [.map (encM eStr m), .cells c, .cells s.row, .map (encM eBool own), x]) := fun st x => by
      rw [op_look2 (V := eStr) (m := m) rfl]; cases lookM t.path m <;> rfl
    have hmu : ∀ st x, opV G st [.map (encM eStr m), .cells c, .cells s.row, .map (encM eBool own), x] (.mapup .s) (some [.map 3, .str t.path, .bool true]) = some (.junk, [.map (encM eStr m), .cells c, .cells s.row, .map (encM eBool (putM t.path true own)), x]) := fun st x => by
      exact op_mapup (V := eBool) (m := own) (v := true) (h := [.map (encM eStr m), .cells c, .cells s.row, .map (encM eBool own), x]) rfl rfl rfl rfl
    simp only [Done.row] at hl1 hl2 hmu
    by_cases c1 : touchedE t = 0
    · have e1 : eqB (touchedE t) 0 = true := eqB_iff.2 c1
      simp only [c1, if_true] at he
      cases c2 : (lookM t.path own).getD false with
      | true =>
        simp only [c2, if_true] at he
        have hr' := hr (by rw [← he]; simp)
        rw [← he] at hr'; subst hr'
        simp [trunc, hlow, Done.row, hi', iadr_sl (touchRows_get hx), cut, mkVal, hc, e1, lookQ, Rs.record_files, hl1, c2]
      | false =>
        simp only [c2, Bool.false_eq_true, if_false] at he
        cases c3 : lookM t.path m with
        | none =>
          simp only [c3, Option.any_none, Bool.false_eq_true, if_false] at he
          simp [trunc, hlow, Done.row, hi', iadr_sl (touchRows_get hx), cut, mkVal, hc, e1, hl1, hl2, c2, c3, hmu, hw]
          refine head_of ?_
          simpa [trunc, hlow, Done.row] using ih _ he
        | some d =>
          by_cases c4 : d = t.dig
          · simp [c3, c4] at he
            simp [trunc, hlow, Done.row, hi', iadr_sl (touchRows_get hx), cut, mkVal, hc, e1, hl1, hl2, c2, c3, c4, hmu, hw]
            refine head_of ?_
            simpa [trunc, hlow, Done.row] using ih _ he
          · simp [c3, c4] at he
            have hr' := hr (by rw [← he]; simp)
            rw [← he] at hr'; subst hr'
            have c4' : (d == t.dig) = false := by simp [c4]
            simp [trunc, hlow, Done.row, hi', iadr_sl (touchRows_get hx), cut, mkVal, hc, e1, hl1, hl2, c2, c3, c4', lookQ, Rs.record_files]
    · have e1 : eqB (touchedE t) 0 = false := eqB_not.2 c1
      simp only [c1, if_false] at he
      have hr' := hr (by rw [← he]; exact c1)
      rw [← he] at hr'; subst hr'
      simp [trunc, hlow, Done.row, hi', iadr_sl (touchRows_get hx), cut, mkVal, hc, e1, lookQ, Rs.record_files]

/-- A call of record.files, where the map is the first block, and the step the second. -/
noncomputable def F_files : List AV → Heap → Option AV
  | [.agg a, .map 0], [.map es, .cells c] => match decDone a, decM eStr es with
    | some s, some m => if okD s = true ∧ lowL 4 c = true then some (.int .i64 (filesE m s)) else none
    | _, _ => none
  | _, _ => none

theorem files_ok (G : Gam) (hG : G Fn.record_touched = some (.pure F_touched)) : ∀ args h r, F_files args h = some r → wpM G Mc.record_files (lookQ Rs.record_files r h) [] (frInit Ks.record_files args) h := by
  intro args h r hF
  unfold F_files at hF
  split at hF
  · rename_i a es c
    split at hF
    · rename_i s m h1 h2
      have := decDone_of h1; subst this
      have := decM_ed eStr h2; subst this
      split at hF
      · rename_i hok
        obtain ⟨hd, hlow⟩ := hok
        injection hF with hF; subst hF
        simp only [okD, Bool.and_eq_true, decide_eq_true_eq] at hd
        rw [wpM_go]
        have loop := fun ks hk => files_loop G hG m c s hd.1.1 hd.1.2 (ks := ks) (filesE m s) [] hlow (fun he => by simp [filesE, he]) hk s.reads 0 [] rfl rfl (by omega)
        simp only [Mc.record_files, frInit, Ks.record_files]
        simp [Done.row, cut]
        refine loop _ (fun he => ?_)
        have hc := touchedE_ok G hG hd.2
        have hl1 : ∀ st, opV G st [.map (encM eStr m), .cells c, .cells s.row, .map (encM eBool (readsE m [] s.reads).2)] (.look .s false (.bool false)) (some [.map 3, .str s.wrote.path]) = some (.bool ((lookM s.wrote.path (readsE m [] s.reads).2).getD false), [.map (encM eStr m), .cells c, .cells s.row, .map (encM eBool (readsE m [] s.reads).2)]) := fun st => by
          rw [op_look (V := eBool) (m := (readsE m [] s.reads).2) rfl]; cases lookM s.wrote.path (readsE m [] s.reads).2 <;> rfl
        have hl2 : ∀ st, opV G st [.map (encM eStr m), .cells c, .cells s.row, .map (encM eBool (readsE m [] s.reads).2)] (.look .s true (.str [])) (some [.map 0, .str s.wrote.path]) = some (.tup [.str ((lookM s.wrote.path m).getD []), .bool (lookM s.wrote.path m).isSome], [.map (encM eStr m), .cells c, .cells s.row, .map (encM eBool (readsE m [] s.reads).2)]) := fun st => by
          rw [op_look2 (V := eStr) (m := m) rfl]; cases lookM s.wrote.path m <;> rfl
        simp only [Done.row] at hl1 hl2
        by_cases c1 : touchedE s.wrote = 0
        · have e1 : eqB (touchedE s.wrote) 0 = true := eqB_iff.2 c1
          cases c2 : (lookM s.wrote.path m).isSome with
          | true => simp [Done.row, cut, mkVal, hc, e1, c1, hl2, c2, filesE, he, lookQ, Rs.record_files]
          | false =>
            cases c3 : (lookM s.wrote.path (readsE m [] s.reads).2).getD false with
            | true => simp [Done.row, cut, mkVal, hc, e1, c1, hl1, hl2, c2, c3, filesE, he, lookQ, Rs.record_files]
            | false => simp [Done.row, cut, mkVal, hc, e1, c1, hl1, hl2, c2, c3, filesE, he, lookQ, Rs.record_files]
        · have e1 : eqB (touchedE s.wrote) 0 = false := eqB_not.2 c1
          simp [Done.row, cut, mkVal, hc, e1, c1, filesE, he, lookQ, Rs.record_files]
      · cases hF
    · cases hF
  · cases hF

end Go.Proofs.YtmjdgpiofhildaaDoor
