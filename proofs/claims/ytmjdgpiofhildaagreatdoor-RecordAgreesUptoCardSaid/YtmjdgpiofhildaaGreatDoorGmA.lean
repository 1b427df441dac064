/- For RecordAgrees: slices.Clone of a list of files that is not empty; slices.Clip. A function whose result is a slice without room behind it (slices.Clip). For RecordAgrees: trees; slices.IndexFunc and ContainsFunc over them (by program); the law's closures. slices.Backward over a tree. -/
import Derived.Test.YtmjdgpiofhildaaGreatDoorDmB
import Derived.Test.YtmjdgpiofhildaaGreatDoorRecOk
import Derived.Test.YtmjdgpiofhildaaGreatDoorAm10
namespace Go.Proofs.YtmjdgpiofhildaaGreatDoor
open Go.RowKit Go.IntWalk

@[simp] theorem op_isnil_sl {G : Gam} {s : Bool} {h : Heap} {g : Bool} {r : List AV} {rs : List (List AV)} : opV G s h (.isnil g) (some [.sl (r :: rs)]) = some (.bool g, h) := by
  rw [opV_quiet rfl]; cases g <;> rfl
@[simp] theorem op_bsl_none {G : Gam} {s : Bool} {h : Heap} : opV G s h (.bsl false 2) (some []) = some (.tsl [], h) := by
  cases s <;> simp [opV, AO.loud, AO.quiet, evalStill, evalAO, evalEff, ownsL, viewL, frzL, freezeAll, sizesOk, onesOk]
theorem op_app_tsl_nil {G : Gam} {s : Bool} {h : Heap} {n b : Nat} {x : AV} {rows : List (List AV)} (hx : rowsOf h x = some rows) (hs : sizesOk n rows = true) (hne : rows ≠ []) (h1 : rows.length * b ≤ byteMax) (h2 : rows.length ≤ byteMax) :
    opV G s h (.app false n b) (some [.tsl [], x]) = some (.own h.length 0 rows.length, h ++ [.arr n 0 rows true]) := by
  rw [opV_eff rfl]
  simp only [evalEff, appRows, Bool.false_eq_true, if_false, hx, hs, if_true, appAV, hne]
  rw [if_pos ⟨by simpa using h1, by simpa using h2, rfl⟩]
  simp

def F_CloneT : List AV → Option AV := F1 (eSl rTouch) (eSl rTouch) fun xs => if xs ≠ [] ∧ xs.length ≤ big then some xs else none
theorem CloneT_ok (G : Gam) : ∀ args r, F_CloneT args = some r → wpM G Mc.slices_Clone___api_Touch_api_Touch_ (pureQ Rs.slices_Clone___api_Touch_api_Touch_ r) [] (frInit Ks.slices_Clone___api_Touch_api_Touch_ args) [] := F1_ok fun xs r h => by
  split at h
  · rename_i hc
    injection h with h; subst h
    rw [wpM_go, eSl_touch]
    obtain ⟨hne, hb⟩ := hc
    have hsz : sizesOk 2 (touchRows xs) = true := sizesOk_map (e := Touch.row) (fun _ => rfl) xs
    have hrl : (touchRows xs).length = xs.length := by simp [touchRows]
    have hrne : touchRows xs ≠ [] := fun e => hne (by have := congrArg List.length e; rw [hrl] at this; exact List.length_eq_zero_iff.1 this)
    generalize touchRows xs = rows at hsz hrl hrne
    cases rows with
    | nil => exact absurd rfl hrne
    | cons r rs =>
      have ap := fun st => op_app_tsl_nil (G := G) (s := st) (h := [.arr 2 0 [] true]) (n := 2) (b := 32) (x := .sl (r :: rs)) rfl hsz (by simp) (by rw [hrl]; unfold big at hb; unfold byteMax; omega) (by rw [hrl]; unfold big at hb; unfold byteMax; omega)
      have hro : rowsOf [.arr 2 0 [] true, .arr 2 0 (r :: rs) true] (.own 1 0 (r :: rs).length) = some (r :: rs) := rows_own rfl rfl
      simp at ap hro
      simp [Mc.slices_Clone___api_Touch_api_Touch_, frInit, Ks.slices_Clone___api_Touch_api_Touch_, sizesOk, onesOk, ap, hro, Rs.slices_Clone___api_Touch_api_Touch_]
  · cases h

end Go.Proofs.YtmjdgpiofhildaaGreatDoor

namespace Go.Proofs.YtmjdgpiofhildaaGreatDoor
open Go.RowKit Go.IntWalk

def pureTQ (rs : List RV) (rows : List (List AV)) : MPost := fun x env fr h => (match x with | .exit _ => False | _ => True) ∧ resAV (getT env fr) h rs = some (.tsl rows)
theorem tsl_pure {C : Cx} {rows : List (List AV)} {u : Value} (h : Rel C (.tsl rows) u) : Rel (Cx.pure C.im) (.tsl rows) u := by
  cases h with
  | tsl _ b o size us hsz hc hr => exact .tsl rows b o size us hsz hc hr
  | tslnil => exact .tslnil
  | tslz a => exact .tslz a
theorem pureT_of {P : Program} {G : Gam} (hm : P.follows .mixedOrders = true) {gv : Nat → Option (List AV)} (hG : GamOK P gv G) {f : FuncId} {fn : Func} {c : Code} (hf : P.funcs[f]? = some fn) (hb : fn.body = some c) {ks ow : List Nat} {dl : List (List Nat)} {rs : List RV} {mc : MC}
    (hks : ks.all (fun k => decide (k < fn.ntmps)) = true) (hrs : compRVs P fn.results.toList = some rs) (hmc : (compC P gv ks fn.ntmps ow c dl).1 = mc) {F : List AV → Option (List (List AV))}
    (hF : ∀ args rows, F args = some rows → wpM G mc (pureTQ rs rows) [] (frInit ks args) []) : PureOK P gv f (fun args => (F args).map .tsl) := by
  intro I w args r vals hI hgl hr hF'
  simp only [Option.map_eq_some_iff] at hF'
  obtain ⟨rows, hF', rfl⟩ := hF'
  have hinv : Inv ⟨w.heap.size, I, gv, fun _ => none, Cx.pure fun _ _ => none⟩ (Cx.pure I) [] w := ⟨hI.cell, hI.one, fun l blk hb => by simp at hb, fun l l' blk blk' b hb => by simp at hb, fun l _ => ⟨rfl, fun _ => rfl⟩, fun l sz ver rows wr hb => by simp at hb, Nat.le_refl _, fun b o u _ hu => hu, hgl, (fun l x hx => by cases hx), ⟨(fun _ _ _ x => by cases x), (fun _ _ x => by cases x), (fun _ _ _ x => by cases x)⟩⟩
  have hst := start_ok (n := fn.ntmps) hinv hks hr
  have hq := hF args rows hF'
  rw [← hmc] at hq
  have hw := wpM_sound hm c true none (fun _ => rfl) ⟨w.heap.size, I, gv, fun _ => none, Cx.pure fun _ _ => none⟩ (GamOK.b hG) dl _ w [] _ [] _ [] _ _ w hst (.start rfl) hq
  refine calls_of_post hf hb (Nat.le_refl _) hw fun x env fr h' C' a' w' k0 k5 k6 k7 => ?_
  obtain ⟨k2, k3⟩ := k0
  refine ⟨k2, ?_⟩
  obtain ⟨u, r1, r2⟩ := resAV_sound k5.inv k5.rel hrs k3
  exact ⟨u, r2, u, C'.im, rfl, ⟨fun b o u hu => k6.im _ _ _ hu, fun b o u hu hb => k5.inv.low b o u hb hu⟩, k5.inv.holds, tsl_pure r1, k7.below⟩

def F_ClipT : List AV → Option (List (List AV))
  | [.sl rows] => if sizesOk 2 rows = true then some rows else none
  | _ => none
theorem ClipT_ok (G : Gam) : ∀ args rows, F_ClipT args = some rows → wpM G Mc.slices_Clip___api_Touch_api_Touch_ (pureTQ Rs.slices_Clip___api_Touch_api_Touch_ rows) [] (frInit Ks.slices_Clip___api_Touch_api_Touch_ args) [] := by
  intro args rows he
  unfold F_ClipT at he
  split at he
  · rename_i rs
    split at he
    · rename_i hs
      injection he with he; subst he
      have sl : ∀ st h, opV G st h (.slc (some 2) false true true) (some [.sl rs, .int .i64 rs.length, .int .i64 rs.length]) = some (.tsl rs, h) := fun st h => by
        rw [opV_quiet rfl]
        simp [evalPure, slcArgs, slc1, slcAV, slcRows, hs]
      rw [wpM_go]
      simp [Mc.slices_Clip___api_Touch_api_Touch_, frInit, Ks.slices_Clip___api_Touch_api_Touch_, sl, pureTQ, Rs.slices_Clip___api_Touch_api_Touch_]
    · cases he
  · cases he

end Go.Proofs.YtmjdgpiofhildaaGreatDoor

namespace Go.Proofs.YtmjdgpiofhildaaGreatDoor
open Go.RowKit Go.IntWalk

/-! ### slices_IndexFunc_api_Tree_api_File_ -/
theorem idxf_loop_slices_IndexFunc_api_Tree_api_File_ (G : Gam) (h : Heap) (rows : List (List AV)) (f : FuncId) (caps : List AV) (hb : rows.length ≤ big) : ∀ (rest : List (List AV)) (i : Nat) (v : Int), rows.drop i = rest → findA (fun row => if row.length = 2 then (mkVal true 2 row).bind (ask G h f caps) else none) i rest = some v →
    headM G [5] Mc.slices_IndexFunc_api_Tree_api_File__L0 h.length [.blk 0, .seq (.seq (.reg [⟨none, some 4, true, .mv, [.c (.int .i64 (-1))]⟩]) .ret)] (lookQ Rs.slices_IndexFunc_api_Tree_api_File_ (.int .i64 v) h)
    [(0, .sl rows), (1, .fn f caps), (4, .int .i64 0), (5, .junk), (7, .int .i64 rows.length), (8, .int .i64 i)] h
  | [], i, v, hd, hv => by
    have hi := drop_nil hd
    have hi' : ¬ (i : Int) < rows.length := by omega
    simp only [findA, Option.some.injEq] at hv; subst hv
    refine head_go (Mc.slices_IndexFunc_api_Tree_api_File__L0.eq_1) ?_
    simp [ltB, hi', lookQ, Rs.slices_IndexFunc_api_Tree_api_File_, owns, freezeAll]
  | x :: rest, i, v, hd, hv => by
    obtain ⟨hi, hx, hxd⟩ := drop_cons hd
    have hi' : (i : Int) < rows.length := by omega
    have hw := wrap1 (i := i) (by omega)
    by_cases hl : x.length = 2
    · simp only [findA, hl, if_true] at hv
      cases hm : mkVal true 2 x with
      | none => simp [hm] at hv
      | some a =>
        simp only [hm, Option.bind_some] at hv
        have hcut : mkVal true 2 (cut x 0 2) = some a := by rw [cut_all hl]; exact hm
        cases ha : ask G h f caps a with
        | none => simp [ha] at hv
        | some b =>
          have hc := ask_call ha
          simp only [ha] at hv
          refine head_go (Mc.slices_IndexFunc_api_Tree_api_File__L0.eq_1) ?_
          cases b with
          | true =>
            simp only [Option.some.injEq] at hv; subst hv
            simp [ltB, hi', iadr_sl hx hl, hcut, hc, lookQ, Rs.slices_IndexFunc_api_Tree_api_File_, owns, freezeAll]
          | false =>
            simp [ltB, hi', iadr_sl hx hl, hcut, hc, hw]
            refine head_of ?_
            have ih := idxf_loop_slices_IndexFunc_api_Tree_api_File_ G h rows f caps hb rest (i + 1) v hxd hv
            simpa using ih
    · simp [findA, hl] at hv

theorem idxf_ok_slices_IndexFunc_api_Tree_api_File_ (G : Gam) : ∀ args h r, F_IndexFunc true 2 G args h = some r → wpM G Mc.slices_IndexFunc_api_Tree_api_File_ (lookQ Rs.slices_IndexFunc_api_Tree_api_File_ r h) [] (frInit Ks.slices_IndexFunc_api_Tree_api_File_ args) h := by
  intro args h r hF
  obtain ⟨rows, f, caps, v, rfl, hb, hv, rfl⟩ := F_IndexFunc_inv hF
  rw [wpM_go]
  have ih := idxf_loop_slices_IndexFunc_api_Tree_api_File_ G h rows f caps hb rows 0 v rfl hv
  simpa [Mc.slices_IndexFunc_api_Tree_api_File_, frInit, Ks.slices_IndexFunc_api_Tree_api_File_] using ih

theorem contf_ok_slices_ContainsFunc_api_Tree_api_File_ (G G0 : Gam) (hG : G Fn.slices_IndexFunc_api_Tree_api_File_ = some (.gen (lookF (F_IndexFunc true 2 G0)))) : ∀ args h r, F_ContainsFunc true 2 G0 args h = some r → wpM G Mc.slices_ContainsFunc_api_Tree_api_File_ (lookQ Rs.slices_ContainsFunc_api_Tree_api_File_ r h) [] (frInit Ks.slices_ContainsFunc_api_Tree_api_File_ args) h := by
  intro args h r hF
  obtain ⟨rows, f, caps, v, rfl, hb, hv, rfl⟩ := F_ContainsFunc_inv hF
  rw [wpM_go]
  have hc : ∀ h0 : Heap, h0 = h → opV G false h0 (.call Fn.slices_IndexFunc_api_Tree_api_File_) (some [.sl rows, .fn f caps]) = some (.int .i64 v, h0) := fun h0 e => by subst e; rw [op_call_gen hG]; simp [lookF, F_IndexFunc, hb, hv]
  simp [Mc.slices_ContainsFunc_api_Tree_api_File_, frInit, Ks.slices_ContainsFunc_api_Tree_api_File_, hc, lookQ, Rs.slices_ContainsFunc_api_Tree_api_File_, owns, freezeAll]


/-! ### Files of a tree: a path and data, two strings as a touch has them -/
def F_ra1 : List AV → Option AV := F1 (eAgg rTouch) eBool fun f => some (ltB 1000 f.dig.length)
theorem ra1_ok (G : Gam) : ∀ args r, F_ra1 args = some r → wpM G Mc.licitlaw17_RecordAgrees_1 (pureQ Rs.licitlaw17_RecordAgrees_1 r) [] (frInit Ks.licitlaw17_RecordAgrees_1 args) [] := F1_ok fun t r h => by
  injection h with h; subst h
  rw [wpM_go, eAgg_touch]
  simp [Touch.row, Mc.licitlaw17_RecordAgrees_1, frInit, Ks.licitlaw17_RecordAgrees_1, Rs.licitlaw17_RecordAgrees_1, eBool]
/-- The closure that looks for a file: its variable holds a touch. -/
def F_ra2 : List AV → Heap → Option AV
  | [.agg row, .ptr l 0], h => match decTouch row, h[l]? with
    | some f, some (.cells vs) => (decTouch vs).map fun y => .bool (f.path == y.path)
    | _, _ => none
  | _, _ => none
theorem ra2_ok (G : Gam) : ∀ args h r, F_ra2 args h = some r → wpM G Mc.licitlaw17_RecordAgrees_2 (lookQ Rs.licitlaw17_RecordAgrees_2 r h) [] (frInit Ks.licitlaw17_RecordAgrees_2 args) h := by
  intro args h r he
  unfold F_ra2 at he
  split at he
  · rename_i row l
    split at he
    · rename_i f vs hd hl
      simp only [Option.map_eq_some_iff] at he
      obtain ⟨y, hy, rfl⟩ := he
      have e1 := decTouch_of hd
      have e2 := decTouch_of hy
      subst e1 e2
      have hll := (List.getElem?_eq_some_iff.1 hl).1
      have h1 : ∀ t : Heap, (h ++ t)[l]? = some (.cells [.str y.path, .str y.dig]) := fun t => by rw [List.getElem?_append_left hll]; exact hl
      rw [wpM_go]
      simp [Touch.row, Mc.licitlaw17_RecordAgrees_2, frInit, Ks.licitlaw17_RecordAgrees_2, Rs.licitlaw17_RecordAgrees_2, h1, cut, mkVal, lookQ, owns, freezeAll]
    · cases he
  · cases he

end Go.Proofs.YtmjdgpiofhildaaGreatDoor

namespace Go.Proofs.YtmjdgpiofhildaaGreatDoor
open Go.RowKit Go.IntWalk

def F_Back (args : List AV) (h : Heap) : Option (AV × Heap) :=
  match args with
  | [.sl rows] => some (.fn Fn.slices_Backward_api_Tree_api_File__1 [.ptr h.length 0], h ++ [.cells [.sl rows]])
  | _ => none
theorem Back_ok (G : Gam) : ∀ args h r h', F_Back args h = some (r, h') → wpM G Mc.slices_Backward_api_Tree_api_File_ (genQ Rs.slices_Backward_api_Tree_api_File_ r h') [] (frInit Ks.slices_Backward_api_Tree_api_File_ args) h := by
  intro args h r h' he
  unfold F_Back at he
  split at he
  · rename_i rows
    injection he with he; injection he with h1 h2; subst h1 h2
    rw [wpM_go]
    simp [Mc.slices_Backward_api_Tree_api_File_, frInit, Ks.slices_Backward_api_Tree_api_File_, genQ, Rs.slices_Backward_api_Tree_api_File_]
  · cases he

open Classical in
/-- The rows from behind: n of them. -/
noncomputable def F_Bk : ItF := fun caps h0 j h =>
  match caps with
  | [.ptr l 0] => match h0[l]? with
    | some (.cells [.sl rows]) => if h[l]? = some (.cells [.sl rows]) ∧ rows.length ≤ big ∧ ∀ row ∈ rows, row.length = 2 then
        (if j < rows.length then some (some [.int .i64 ((rows.length : Int) - 1 - j), .agg (rows.getD (rows.length - 1 - j) [])], h) else some (none, h)) else none
    | _ => none
  | _ => none

theorem Bk_inv {caps : List AV} {h0 h : Heap} {j : Nat} {r : Option (List AV) × Heap} (he : F_Bk caps h0 j h = some r) : ∃ l rows, caps = [.ptr l 0] ∧ h0[l]? = some (.cells [.sl rows]) ∧ h[l]? = some (.cells [.sl rows]) ∧ rows.length ≤ big ∧ (∀ row ∈ rows, row.length = 2) ∧
    r = if j < rows.length then (some [.int .i64 ((rows.length : Int) - 1 - j), .agg (rows.getD (rows.length - 1 - j) [])], h) else (none, h) := by
  unfold F_Bk at he
  split at he
  · rename_i l
    split at he
    · rename_i rows h1
      split at he
      · rename_i hc
        refine ⟨l, rows, rfl, h1, hc.1, hc.2.1, hc.2.2, ?_⟩
        split at he
        · rename_i hj; injection he with he; rw [if_pos hj]; exact he.symm
        · rename_i hj; injection he with he; rw [if_neg hj]; exact he.symm
      · cases he
    · cases he
  · cases he

theorem bk_L0 (G : Gam) (Y : Nat → List AV → Heap → Option (AV × Heap)) (k l : Nat) (rows : List (List AV)) (hb : rows.length ≤ big) (hsz : ∀ row ∈ rows, row.length = 2) (h0 h' : Heap) (h00 : h0[l]? = some (.cells [.sl rows])) (m : Nat) : ∀ (N j : Nat) (h : Heap), j ≤ rows.length → h[l]? = some (.cells [.sl rows]) → runYN (F_Bk [.ptr l 0] h0) (Y k) N j h h' →
    headM { G with y := Y } [999999] Mc.slices_Backward_api_Tree_api_File__1_L0 m [.blk 0] (itQ h') [(0, .yld k), (1, .ptr l 0), (3, .int .i64 ((rows.length : Int) - 1 - j))] h
  | 0, _, _, _, _, hr => hr.elim
  | N + 1, j, h, hj, hl, hr => by
    simp only [runYN] at hr
    have hc : h[l]? = some (.cells [.sl rows]) ∧ rows.length ≤ big ∧ ∀ row ∈ rows, row.length = 2 := ⟨hl, hb, hsz⟩
    refine head_goN (Mc.slices_Backward_api_Tree_api_File__1_L0.eq_1) ?_
    by_cases hlt : j < rows.length
    · simp only [F_Bk, h00, if_pos hc, if_pos hlt] at hr
      have hi : rows.length - 1 - j < rows.length := by omega
      obtain ⟨i, hie⟩ : ∃ i : Nat, i = rows.length - 1 - j := ⟨_, rfl⟩
      have hii : (rows.length : Int) - 1 - j = (i : Int) := by omega
      rw [hii, ← hie] at hr
      have hrow : rows[i]? = some (rows.getD i []) := by simp [show i < rows.length by omega]
      have hrl : (rows.getD i []).length = 2 := hsz _ (List.mem_of_getElem? hrow)
      have hcu : cut (rows.getD i []) 0 2 = rows.getD i [] := cut_all hrl
      have ia := iadr_sl (h := h) (k := .i64) hrow hrl
      have hge : ltB (i : Int) 0 = false := ltB_not.2 (by omega)
      have hsub : IntKind.i64.wrap ((i : Int) - 1) = (i : Int) - 1 := i64_in _ (by unfold big at hb; omega)
      have hld : loadAV 1 false h (.ptr l 0) = some (.sl rows) := ld_one hl
      generalize rows.getD i [] = row at hr hrow hrl hcu ia
      have hmk : mkVal true 2 row = some (.agg row) := by simp [mkVal, hrl]
      rw [hii]
      have hy : opV { G with y := Y } false h .callv (some [.yld k, .int .i64 i, .agg row]) = Y k [.int .i64 i, .agg row] h := op_yld
      split at hr
      · rename_i h2 hY
        rw [hY] at hy
        have hl2 : h2[l]? = some (.cells [.sl rows]) := by
          cases N with
          | zero => exact hr.elim
          | succ N =>
            simp only [runYN] at hr
            split at hr
            · exact hr.elim
            · rename_i h3 hF
              obtain ⟨l', rows', e1, e2, e3, _⟩ := Bk_inv hF
              injection e1 with e1 _; injection e1 with e1 _; subst e1
              rw [h00] at e2; injection e2 with e2; injection e2 with e2; injection e2 with e2 _; injection e2 with e2; subst e2
              exact e3
            · rename_i a h3 hF
              obtain ⟨l', rows', e1, e2, e3, _⟩ := Bk_inv hF
              injection e1 with e1 _; injection e1 with e1 _; subst e1
              rw [h00] at e2; injection e2 with e2; injection e2 with e2; injection e2 with e2 _; injection e2 with e2; subst e2
              exact e3
        have ih := bk_L0 G Y k l rows hb hsz h0 h' h00 m N (j + 1) h2 (by omega) hl2 hr
        have hnext : ((rows.length : Int) - 1 - ((j + 1 : Nat) : Int)) = (i : Int) - 1 := by omega
        rw [hnext] at ih
        simp [sc_geq, hge, hld, ia, hcu, hmk, hy, sc_sub, hsub, -loadAV]
        simpa using ih
      · rename_i h2 hY
        rw [hY] at hy
        subst hr
        simp [sc_geq, hge, hld, ia, hcu, hmk, hy, itQ, -loadAV]
      · exact hr.elim
    · simp only [F_Bk, h00, if_pos hc, if_neg hlt] at hr
      subst hr
      have hii : (rows.length : Int) - 1 - j = -1 := by omega
      have hge : ltB (-1) 0 = true := ltB_iff.2 (by omega)
      rw [hii]
      simp [sc_geq, hge, itQ]

theorem Bk_ok (G : Gam) : ∀ (Y : Nat → List AV → Heap → Option (AV × Heap)) (caps : List AV) (k N : Nat) (h h' : Heap), runYN (F_Bk caps h) (Y k) N 0 h h' → wpM { G with y := Y } Mc.slices_Backward_api_Tree_api_File__1 (itQ h') [] (frInit Ks.slices_Backward_api_Tree_api_File__1 (.yld k :: caps)) h := by
  intro Y caps k N h h' hr
  have hr0 := hr
  cases N with
  | zero => exact hr.elim
  | succ N =>
    simp only [runYN] at hr
    have key : ∀ r, F_Bk caps h 0 h = some r → wpM { G with y := Y } Mc.slices_Backward_api_Tree_api_File__1 (itQ h') [] (frInit Ks.slices_Backward_api_Tree_api_File__1 (.yld k :: caps)) h := fun r hF => by
      obtain ⟨l, rows, rfl, e1, e2, e3, e4, _⟩ := Bk_inv hF
      have l0 := bk_L0 G Y k l rows e3 e4 h h' e1 h.length (N + 1) 0 h (by omega) e1 hr0
      have hsub : IntKind.i64.wrap ((rows.length : Int) - 1) = (rows.length : Int) - 1 := i64_in _ (by unfold big at e3; omega)
      have hld : loadAV 1 false h (.ptr l 0) = some (.sl rows) := ld_one e1
      rw [wpM_go]
      simp at l0
      simp [Mc.slices_Backward_api_Tree_api_File__1, frInit, Ks.slices_Backward_api_Tree_api_File__1, hld, sc_sub, hsub, -loadAV]
      exact l0
    split at hr
    · exact hr.elim
    · rename_i h1 hF; exact key _ hF
    · rename_i a h1 hF; exact key _ hF

end Go.Proofs.YtmjdgpiofhildaaGreatDoor
