/- A function: from its code, resolved, to what a call of it does. The small language's laws, for proofs over it. Proofs over the small language, step by step: the code that is still to come stands as data. Small laws for proofs over the small language. -/
import Derived.Test.YtmjdgpiofhildaaGreatDoorAm7
import Derived.RangeFuncLeaves
import Derived.IntWalk
namespace Go.Proofs.YtmjdgpiofhildaaGreatDoor
open Go.RowKit

inductive RV where
  | tmp (t : Nat)
  | cell (a size : Nat) (agg : Bool)
  deriving Inhabited

def compRV (P : Program) : ResultVar → Option RV
  | .tmp t => some (.tmp t)
  | .cell a t => match tsize P t, tagg P t with
    | some n, some g => some (.cell a n g)
    | _, _ => none

def compRVs (P : Program) : List ResultVar → Option (List RV)
  | [] => some []
  | x :: xs => match compRV P x, compRVs P xs with
    | some y, some ys => some (y :: ys)
    | _, _ => none

def resOne (e : Nat → Option AV) (h : Heap) : RV → Option AV
  | .tmp t => e t
  | .cell a size agg => match e a with
    | some p => loadAV size agg h p
    | none => none

def resL (e : Nat → Option AV) (h : Heap) : List RV → Option (List AV)
  | [] => some []
  | x :: xs => match resOne e h x, resL e h xs with
    | some v, some vs => some (v :: vs)
    | _, _ => none

def resAV (e : Nat → Option AV) (h : Heap) (rs : List RV) : Option AV :=
  match resL e h rs with
  | some [v] => some v
  | some vs => some (.tup vs)
  | none => none

/-- The slots at the start: what is handed in; the rest holds nothing. -/
def frInit : List Nat → List AV → List (Nat × AV)
  | [], _ => []
  | k :: ks, args => (k, (args[k]?).getD .junk) :: frInit ks args

/-- What a function that keeps to itself comes to. -/
def pureQ (rs : List RV) (r : AV) : MPost := fun x env fr h => (match x with | .exit _ => False | _ => True) ∧ ∃ v, resAV (getT env fr) h rs = some v ∧ view h v = some r
/-- The same; nil slices stay what they are. -/
def pureKQ (rs : List RV) (r : AV) : MPost := fun x env fr h => (match x with | .exit _ => False | _ => True) ∧ ∃ v, resAV (getT env fr) h rs = some v ∧ viewK h v = some r
def genQ (rs : List RV) (r : AV) (h' : Heap) : MPost := fun x env fr h => (match x with | .exit _ => False | _ => True) ∧ resAV (getT env fr) h rs = some r ∧ h = h'

section
variable {P : Program} {B : Base} {C D : Cx} {h : Heap} {w w' : World} {G : Gam} {a : Act}

theorem resOne_sound (hi : Inv B C h w) {e : Nat → Option AV} (hr : RelT C e a) {x : ResultVar} {y : RV} {v : AV} (hc : compRV P x = some y) (hv : resOne e h y = some v) :
    ∃ u, Rel C v u ∧ (match x with | .tmp t => (pure (a.tmps.getD t undef) : Sem Value) | .cell b t => do loadVar t (← asAddr (a.tmps.getD b undef))).run P w = .ok u w := by
  cases x with
  | tmp t =>
    simp only [compRV, Option.some.injEq] at hc; subst hc
    obtain ⟨u, h1, h2⟩ := hr t v hv
    exact ⟨u, h2, by simp [h1]⟩
  | cell b t =>
    simp only [compRV] at hc
    split at hc
    · rename_i n g hn hg
      simp only [Option.some.injEq] at hc; subst hc
      simp only [resOne] at hv
      split at hv
      · rename_i p hp
        obtain ⟨x, h1, h2⟩ := hr b p hp
        obtain ⟨u, k1, k2⟩ := loadAV_sound hi hg hn h2 hv
        have k3 := k2 w (Below.refl _ _)
        have hx : ∃ ad, x = .pointer (some ad) := by
          cases h2 <;> simp [loadAV] at hv <;> exact ⟨_, rfl⟩
        obtain ⟨ad, rfl⟩ := hx
        refine ⟨u, k1, ?_⟩
        simp only [Instr.loadAt, Instr.sureAddr, Sem.run_bind, Sem.run_pure, Result.andThen_ok] at k3
        simp [h1, asAddr, k3]
      · cases hv
    · cases hc

theorem resL_sound (hi : Inv B C h w) {e : Nat → Option AV} (hr : RelT C e a) : ∀ {xs : List ResultVar} {ys : List RV} {vs : List AV}, compRVs P xs = some ys → resL e h ys = some vs →
    ∃ us, RelL C vs us ∧ (xs.mapM (m := Sem) fun | .tmp t => (pure (a.tmps.getD t undef) : Sem Value) | .cell b t => do loadVar t (← asAddr (a.tmps.getD b undef))).run P w = .ok us w
  | [], ys, vs, hc, hv => by
    simp [compRVs] at hc; subst hc
    simp [resL] at hv; subst hv
    exact ⟨[], .nil, by simp⟩
  | x :: xs, ys, vs, hc, hv => by
    simp only [compRVs] at hc
    split at hc
    · rename_i y ys' h1 h2
      injection hc with hc; subst hc
      simp only [resL] at hv
      split at hv
      · rename_i v vs' h3 h4
        injection hv with hv; subst hv
        obtain ⟨u, k1, k2⟩ := resOne_sound hi hr h1 h3
        obtain ⟨us, k3, k4⟩ := resL_sound hi hr h2 h4
        refine ⟨u :: us, .cons k1 k3, ?_⟩
        rw [List.mapM_cons, Sem.run_bind, k2, Result.andThen_ok, Sem.run_bind, k4]
        simp
      · cases hv
    · cases hc

theorem resAV_sound (hi : Inv B C h w) {e : Nat → Option AV} (hr : RelT C e a) {fn : Func} {ys : List RV} {v : AV} (hc : compRVs P fn.results.toList = some ys) (hv : resAV e h ys = some v) :
    ∃ u, Rel C v u ∧ (results fn a.tmps).run P w = .ok u w := by
  unfold resAV at hv
  have run : ∀ us : List Value, (fn.results.toList.mapM (m := Sem) fun | .tmp t => (pure (a.tmps.getD t undef) : Sem Value) | .cell b t => do loadVar t (← asAddr (a.tmps.getD b undef))).run P w = .ok us w →
      (results fn a.tmps).run P w = .ok (if h : us.toArray.size = 1 then us.toArray[0] else .tuple us.toArray) w := fun us hu => by
    unfold results
    rw [Array.mapM_eq_mapM_toList]
    simp only [bind_map_left, Sem.run_bind, Sem.run_pure]
    exact (congrArg (fun r => Result.andThen r _) hu).trans rfl
  split at hv
  · rename_i x hx
    injection hv with hv; subst hv
    obtain ⟨us, k1, k2⟩ := resL_sound hi hr hc hx
    obtain ⟨u, us', rfl, k3, k4⟩ := k1.inv_cons
    have := k4.inv_nil; subst this
    exact ⟨u, k3, by rw [run _ k2]; simp⟩
  · rename_i vs hne hx
    injection hv with hv; subst hv
    obtain ⟨us, k1, k2⟩ := resL_sound hi hr hc hx
    refine ⟨.tuple us.toArray, .tup _ _ (by simpa using k1.1) (fun i c u hc hu => k1.2 i c u hc (by simpa using hu)), ?_⟩
    rw [run _ k2]
    have : us.length ≠ 1 := fun e => by
      have hl := k1.1
      rw [e] at hl
      match vs, hl with
      | [y], _ => exact hne y rfl
    rw [dif_neg (by simpa using this)]
  · cases hv

theorem lkp_frInit (args : List AV) : ∀ (ks : List Nat) (t : Nat) (x : AV), lkp t (frInit ks args) = some x → t ∈ ks ∧ x = (args[t]?).getD .junk
  | [], t, x, h => by simp [frInit, lkp] at h
  | k :: ks, t, x, h => by
    simp only [frInit, lkp] at h
    split at h
    · rename_i e; subst e; injection h with h; exact ⟨by simp, h.symm⟩
    · have := lkp_frInit args ks t x h; exact ⟨by simp [this.1], this.2⟩

/-- The frame at the start. -/
theorem start_ok (hi : Inv B C h w) {ks : List Nat} {n : Nat} (hks : ks.all (fun k => decide (k < n)) = true) {args : List AV} {vals : Array Value} (hr : RelL C args vals.toList) :
    StOK ks n B C [] (frInit ks args) h { tmps := vals ++ Array.replicate (n - vals.size) undef, defers := [] } w := by
  have hsz : n ≤ (vals ++ Array.replicate (n - vals.size) undef).size := by simp; omega
  refine ⟨hi, fun t x hx => ?_, fun t v hx => by simp [lkp] at hx, fun t v hx => ?_, hsz⟩
  · have hx' : lkp t (frInit ks args) = some x := hx
    obtain ⟨h1, rfl⟩ := lkp_frInit args ks t x hx'
    have ht : t < n := by simpa using List.all_eq_true.1 hks t h1
    cases ha : args[t]? with
    | some c =>
      obtain ⟨u, k1, k2⟩ := hr.get ha
      have hlt : t < vals.size := by have := (List.getElem?_eq_some_iff.1 k1).1; simpa using this
      refine ⟨u, ?_, k2⟩
      show (vals ++ Array.replicate (n - vals.size) undef)[t]? = some u
      rw [Array.getElem?_append_left hlt]
      simpa using k1
    | none =>
      have hlt : t < (vals ++ Array.replicate (n - vals.size) undef).size := by omega
      exact ⟨(vals ++ Array.replicate (n - vals.size) undef)[t], by simp [hlt], .junk _⟩
  · have := (lkp_frInit args ks t v hx).1
    simpa using this

/-! ### The way out -/
theorem blockOf_obj {l b : Nat} {blk : Blk} (hk : BlkOK B C w l blk) (hb : blockOf C l blk = some b) : ∃ o, w.heap[b]? = some o ∧ ∀ c, o ≠ .deferred c := by
  cases blk with
  | cellsT tg vs =>
    obtain ⟨b', cur, e, h1, h2, h3, _⟩ := hk
    simp only [blockOf, h1, Option.some.injEq] at hb; subst hb; exact ⟨_, h3, fun c => by simp⟩
  | arrX ne tg sz ver rows wr =>
    rcases hk with ⟨h1, h2⟩ | ⟨r, cur, h1, h2, _, _, _, h6, _⟩
    · simp [blockOf, h1] at hb
    · simp only [blockOf, h1, Option.some.injEq] at hb; subst hb; exact ⟨_, h6, fun c => by simp⟩
  | map es =>
    obtain ⟨b', ms, ck, h1, h2, h3, _⟩ := hk
    simp only [blockOf, h1, Option.some.injEq] at hb; subst hb; exact ⟨_, h3, fun c => by simp⟩
  | iter s pos =>
    obtain ⟨b', h1, h2, h3⟩ := hk
    simp only [blockOf, h1, Option.some.injEq] at hb; subst hb; exact ⟨_, h3, fun c => by simp⟩
  | lp bz x =>
    obtain ⟨b', r, h1, h2, _, h3⟩ := hk
    simp only [blockOf, h1, Option.some.injEq] at hb; subst hb; exact ⟨_, h3, fun c => by simp⟩
  | dead => simp [blockOf] at hb

/-- A block for deferred calls turns: nothing that is known. -/
theorem inv_sys (hi : Inv B C h w) {k : Nat} {c : Option (List Deferred)} (hk : w.heap[k]? = some (.deferred c)) (o : Obj) : Inv B C h (World.put w k o) := by
  refine ⟨fun b i u hu => ?_, hi.one, fun l blk hb => ?_, hi.inj, hi.fr, hi.fv, by rw [put_size]; exact hi.hB, hi.low, hi.gl, fun g cs hg => (by
      obtain ⟨h1, T, fz, h2⟩ := hi.tb g cs hg
      exact ⟨h1, T, fz, by rw [put_other (fun e => by subst e; rw [hk] at h2; cases h2)]; exact h2⟩), hi.rcl, hi.cle⟩
  · have hc := hi.im b i u hu
    refine put_cell (fun e => ?_) hc
    subst e
    simp [World.cell?, hk] at hc
  · refine (hi.ok l blk hb).stay (.refl C) fun b hbo => ⟨put_other fun e => ?_, fun _ => rfl⟩
    subst e
    obtain ⟨o2, q1, q2⟩ := blockOf_obj (hi.ok l blk hb) hbo
    rw [hk] at q1; injection q1 with q1
    exact q2 c q1.symm

theorem leave_marks {fn : Func} {tmps : Array Value} {R : Ending → World → Prop} {w0 : World} (hB : B.n ≤ w0.heap.size) (fin : ∀ w2, Inv B C h w2 → Keep B w0 w2 → ∃ v, (results fn tmps).run P w2 = .ok v w2 ∧ R (.returned v) w2) :
    ∀ (Ds : List Nat) (w : World), Inv B C h w → Keep B w0 w → Marks w0 Ds w → LeavesInM Fence.wide 0 P fn tmps R (Ds.map mark) .returning w
  | [], w, hi, hk, _ => fin w hi hk
  | D :: Ds, w, hi, hk, hm => by
    obtain ⟨h1, h2⟩ := hm.there D (by simp)
    refine ⟨by simp, .inl ⟨D, _, rfl, run_takeDeferred h2, ?_⟩⟩
    refine leave_marks hB fin Ds _ (inv_sys hi h2 _) ⟨?_, fun k c hc => ?_⟩ ⟨(List.nodup_cons.1 hm.nodup).2, fun E hE => ?_⟩
    · exact hk.below.trans ⟨rfl, rfl, rfl, by simp, fun k hk => World.putObj_heap_other (by omega)⟩
    · have : k ≠ D := fun e => by subst e; have := heap_lt hc; omega
      exact (World.putObj_heap_other this).trans (hk.sys k c hc)
    · have : E ≠ D := fun e => by subst e; exact (List.nodup_cons.1 hm.nodup).1 hE
      exact ⟨(hm.there E (by simp [hE])).1, (World.putObj_heap_other this).trans (hm.there E (by simp [hE])).2⟩

theorem calls_of_post {f : FuncId} {fn : Func} {c : Code} (hf : P.funcs[f]? = some fn) (hb : fn.body = some c) {ks : List Nat} {C0 : Cx} {Q : MPost} {args : Array Value} {R : Ending → World → Prop} (hB : B.n ≤ w.heap.size)
    (hw : c.wpIn (fR none) 0 P (Post ks fn.ntmps B C0 w [] Q) { tmps := args ++ Array.replicate (fn.ntmps - args.size) undef, defers := [] } w)
    (fin : ∀ x env fr h C a w2, Q x env fr h → StOK ks fn.ntmps B C env fr h a w2 → C0.Le C → Keep B w w2 → (match x with | .exit _ => False | _ => True) ∧ ∃ v, (results fn a.tmps).run P w2 = .ok v w2 ∧ R (.returned v) w2) : Calls P f args w R := by
  refine (callsIn_wide (n := 0)).1 (callsIn_of_wp_marks (F := Fence.wide) hf hb trivial (wpIn_mono hw fun e a w2 hp => ?_))
  obtain ⟨x, env, fr, h2, C2, k1, k2, k3, k4⟩ := hp
  obtain ⟨Ds, hD, hM⟩ := k4.ds
  have out : LeavesInM Fence.wide 0 P fn a.tmps R a.defers .returning w2 := by
    rw [hD, List.append_nil]
    exact leave_marks hB (fun w3 hi hk => (fin x env fr h2 C2 a w3 k2 ⟨hi, k3.rel, k3.sep, k3.keys, k3.size⟩ k4.le hk).2) Ds w2 k3.inv k4.keep hM
  cases x with
  | normal => cases e <;> simp only [MX.is] at k1; exact out
  | ret => cases e <;> simp only [MX.is] at k1; exact out
  | exit i => exact (fin (.exit i) env fr h2 C2 a w2 k2 k3 k4.le k4.keep).1.elim

theorem pure_of (hm : P.follows .mixedOrders = true) {gv : Gv} (hG : GamOK P gv G) {f : FuncId} {fn : Func} {c : Code} (hf : P.funcs[f]? = some fn) (hb : fn.body = some c) {ks ow : List Nat} {dl : List (List Nat)} {rs : List RV} {mc : MC}
    (hks : ks.all (fun k => decide (k < fn.ntmps)) = true) (hrs : compRVs P fn.results.toList = some rs) (hmc : (compC P gv ks fn.ntmps ow c dl).1 = mc) {F : List AV → Option AV}
    (hF : ∀ args r, F args = some r → wpM G mc (pureQ rs r) [] (frInit ks args) []) : PureOK P gv f F := by
  intro I w args r vals hI hgl hr hF'
  have hinv : Inv ⟨w.heap.size, I, gv, fun _ => none, Cx.pure fun _ _ => none⟩ (Cx.pure I) [] w := ⟨hI.cell, hI.one, fun l blk hb => by simp at hb, fun l l' blk blk' b hb => by simp at hb, fun l _ => ⟨rfl, fun _ => rfl⟩, fun l ne tg sz ver rows wr hb => by simp at hb, Nat.le_refl _, fun b o u _ hu => hu, hgl.gl, (fun g cs hg => (by obtain ⟨T, fz, h2⟩ := hgl.tb g cs hg; exact ⟨heap_lt h2, T, fz, h2⟩)), (fun l x hx => by cases hx), ⟨(fun _ _ _ x => by cases x), (fun _ _ x => by cases x), (fun _ _ _ x => by cases x)⟩⟩
  have hst := start_ok (n := fn.ntmps) hinv hks hr
  have hq := hF args r hF'
  rw [← hmc] at hq
  have hw := wpM_sound hm c true none (fun _ => rfl) ⟨w.heap.size, I, gv, fun _ => none, Cx.pure fun _ _ => none⟩ (GamOK.b hG) dl _ w [] _ [] _ [] _ _ w hst (.start rfl) hq
  refine calls_of_post hf hb (Nat.le_refl _) hw fun x env fr h' C' a' w' k0 k5 k6 k7 => ?_
  obtain ⟨k2, v, k3, k4⟩ := k0
  refine ⟨k2, ?_⟩
  obtain ⟨u, r1, r2⟩ := resAV_sound k5.inv k5.rel hrs k3
  have hfz : frz h' v = some (r, freezeAll h' (owns v)) := by simp [frz, k4]
  obtain ⟨D, d1, d2, d3, d4, d5⟩ := frz_sound k5.inv hfz r1
  exact ⟨u, r2, u, D.im, rfl, ⟨fun b o u hu => d1.im _ _ _ (k6.im _ _ _ hu), fun b o u hu hb => d2.low b o u hb hu⟩, d2.holds, d3, k7.below⟩

/-- The same; nil slices in the result stay what they are. -/
theorem pureK_of (hm : P.follows .mixedOrders = true) {gv : Gv} (hG : GamOK P gv G) {f : FuncId} {fn : Func} {c : Code} (hf : P.funcs[f]? = some fn) (hb : fn.body = some c) {ks ow : List Nat} {dl : List (List Nat)} {rs : List RV} {mc : MC}
    (hks : ks.all (fun k => decide (k < fn.ntmps)) = true) (hrs : compRVs P fn.results.toList = some rs) (hmc : (compC P gv ks fn.ntmps ow c dl).1 = mc) {F : List AV → Option AV}
    (hF : ∀ args r, F args = some r → wpM G mc (pureKQ rs r) [] (frInit ks args) []) : PureOK P gv f F := by
  intro I w args r vals hI hgl hr hF'
  have hinv : Inv ⟨w.heap.size, I, gv, fun _ => none, Cx.pure fun _ _ => none⟩ (Cx.pure I) [] w := ⟨hI.cell, hI.one, fun l blk hb => by simp at hb, fun l l' blk blk' b hb => by simp at hb, fun l _ => ⟨rfl, fun _ => rfl⟩, fun l ne tg sz ver rows wr hb => by simp at hb, Nat.le_refl _, fun b o u _ hu => hu, hgl.gl, (fun g cs hg => (by obtain ⟨T, fz, h2⟩ := hgl.tb g cs hg; exact ⟨heap_lt h2, T, fz, h2⟩)), (fun l x hx => by cases hx), ⟨(fun _ _ _ x => by cases x), (fun _ _ x => by cases x), (fun _ _ _ x => by cases x)⟩⟩
  have hst := start_ok (n := fn.ntmps) hinv hks hr
  have hq := hF args r hF'
  rw [← hmc] at hq
  have hw := wpM_sound hm c true none (fun _ => rfl) ⟨w.heap.size, I, gv, fun _ => none, Cx.pure fun _ _ => none⟩ (GamOK.b hG) dl _ w [] _ [] _ [] _ _ w hst (.start rfl) hq
  refine calls_of_post hf hb (Nat.le_refl _) hw fun x env fr h' C' a' w' k0 k5 k6 k7 => ?_
  obtain ⟨k2, v, k3, k4⟩ := k0
  refine ⟨k2, ?_⟩
  obtain ⟨u, r1, r2⟩ := resAV_sound k5.inv k5.rel hrs k3
  have hfz : frzK h' v = some (r, freezeAll h' (owns v)) := by simp [frzK, k4]
  obtain ⟨D, d1, d2, d3, d4, d5⟩ := frzK_sound k5.inv hfz r1
  exact ⟨u, r2, u, D.im, rfl, ⟨fun b o u hu => d1.im _ _ _ (k6.im _ _ _ hu), fun b o u hu hb => d2.low b o u hb hu⟩, d2.holds, d3, k7.below⟩

theorem gen_of (hm : P.follows .mixedOrders = true) {gv : Gv} (hG : GamOK P gv G) {f : FuncId} {fn : Func} {c : Code} (hf : P.funcs[f]? = some fn) (hb : fn.body = some c) {ks ow : List Nat} {dl : List (List Nat)} {rs : List RV} {mc : MC}
    (hks : ks.all (fun k => decide (k < fn.ntmps)) = true) (hrs : compRVs P fn.results.toList = some rs) (hmc : (compC P gv ks fn.ntmps ow c dl).1 = mc) {F : List AV → Heap → Option (AV × Heap)}
    (hF : ∀ args h r h', F args h = some (r, h') → wpM G mc (genQ rs r h') [] (frInit ks args) h) : GenOK P gv f F := by
  intro B C h w args r h' vals hgv hi hr hF'
  subst hgv
  have hst := start_ok (n := fn.ntmps) hi hks hr
  have hq := hF args h r h' hF'
  rw [← hmc] at hq
  have hw := wpM_sound hm c true none (fun _ => rfl) B (GamOK.b hG) dl _ w [] _ [] _ h _ _ w hst (.start rfl) hq
  refine calls_of_post hf hb hi.hB hw fun x env fr h2 C' a' w' k0 k5 k6 k7 => ?_
  obtain ⟨k2, k3, k4⟩ := k0
  subst k4
  refine ⟨k2, ?_⟩
  obtain ⟨u, r1, r2⟩ := resAV_sound k5.inv k5.rel hrs k3
  exact ⟨u, r2, u, C', rfl, k6, k5.inv, r1, k7⟩

/-- What an iterator comes to. -/
def itQ (h' : Heap) : MPost := fun x _ _ h => (match x with | .exit _ => False | _ => True) ∧ h = h'

theorem it_of (hm : P.follows .mixedOrders = true) {gv : Gv} (hG : GamOK P gv G) {f : FuncId} {fn : Func} {c : Code} (hf : P.funcs[f]? = some fn) (hb : fn.body = some c) {ks ow : List Nat} {dl : List (List Nat)} {mc : MC}
    (hks : ks.all (fun k => decide (k < fn.ntmps)) = true) (hrs : fn.results.toList = []) (hmc : (compC P gv ks fn.ntmps ow c dl).1 = mc) {F : ItF}
    (hF : ∀ (Y : Nat → List AV → Heap → Option (AV × Heap)) (caps : List AV) (k N : Nat) (h h' : Heap), runYN (F caps h) (Y k) N 0 h h' → wpM { G with y := Y } mc (itQ h') [] (frInit ks (.yld k :: caps)) h) : ItOK P gv f F := by
  intro B C h h' w caps vals k b N Y hgv hi hr hbl hY hrun
  subst hgv
  have hr' : RelL C (.yld k :: caps) (#[Value.func (.yield b) #[] #[]] ++ vals).toList := by
    rw [Array.toList_append]; exact .cons (.yld k b hbl) hr
  have hst := start_ok (n := fn.ntmps) hi hks hr'
  have hq := hF Y caps k N h h' hrun
  rw [← hmc] at hq
  have hw := wpM_sound hm c true none (fun _ => rfl) B (GamOK.withY hG hY) dl _ w [] _ [] _ h _ _ w hst (.start rfl) hq
  refine calls_of_post hf hb hi.hB hw fun x env fr h2 C' a' w' k0 k5 k6 k7 => ?_
  obtain ⟨k2, k4⟩ := k0
  subst k4
  refine ⟨k2, ?_⟩
  have hv : (results fn a'.tmps).run P w' = .ok (.tuple #[]) w' := by
    unfold results
    rw [Array.mapM_eq_mapM_toList, hrs]
    simp
  exact ⟨_, hv, _, C', rfl, k6, k5.inv, k7⟩

/-- No package-level variable is known. -/
def gv0 : Gv := ⟨fun _ => Option.none, fun _ => Option.none⟩

/-! ### What is known, one function after the other -/
def Gam.none : Gam := ⟨fun _ => Option.none, fun _ _ _ => Option.none⟩
def Gam.add (G : Gam) (f : FuncId) (c : CT) : Gam := { G with fn := fun g => if g = f then some c else G g }

theorem gam_none (gv : Gv) : GamOK P gv Gam.none := ⟨fun f c h => by simp [Gam.none] at h, fun f c h => by simp [Gam.none] at h, fun _ _ _ => rfl⟩

def entersB (P : Program) (f : FuncId) : Bool := match P.funcs[f]? with
  | some fn => fn.name != "runtime.NumGoroutine" && fn.body.isSome
  | none => false

theorem enters_of {f : FuncId} (h : entersB P f = true) : Enters P f := by
  intro args w
  unfold entersB at h
  split at h
  · rename_i fn hf
    simp only [Bool.and_eq_true] at h
    have h1 : fn.name ≠ "runtime.NumGoroutine" := by simpa using h.1
    have h2 : fn.body ≠ none := fun e => by have := h.2; rw [e] at this; cases this
    simp [callFunc, program, Sem.run, hf, h1, h2]
  · cases h

theorem gam_add {gv : Gv} (hG : GamOK P gv G) {f : FuncId} {c : CT} (he : entersB P f = true) (hc : c.OK P gv f) : GamOK P gv (G.add f c) := by
  refine ⟨fun g c' h => ?_, fun g c' h => ?_, hG.noy⟩
  · by_cases e : g = f
    · subst e; exact enters_of he
    · refine hG.enters g c' ?_
      have h : (if g = f then some c else G g) = some c' := h
      rwa [if_neg e] at h
  · have h : (if g = f then some c else G g) = some c' := h
    by_cases e : g = f
    · subst e
      rw [if_pos rfl] at h
      injection h with h; subst h; exact hc
    · rw [if_neg e] at h; exact hG.ok g c' h

end
end Go.Proofs.YtmjdgpiofhildaaGreatDoor

namespace Go.Proofs.YtmjdgpiofhildaaGreatDoor
open Go.RowKit
section
variable {G : Gam}

/-- A loop, at its head. -/
def LoopM (G : Gam) (dead : List Nat) (a : MC) (n : Nat) (Q : MPost) (fr : List (Nat × AV)) (h : Heap) : Prop := ∃ N, roundsM (wpM G a) dead n Q N [] fr h

theorem rounds_env {T : MPost → List (Nat × AV) → List (Nat × AV) → Heap → Prop} {dead : List Nat} {n : Nat} {Q : MPost} {N : Nat} {env env' fr : List (Nat × AV)} {h : Heap} : roundsM T dead n Q N env fr h = roundsM T dead n Q N env' fr h := by
  cases N <;> rfl

theorem wpM_loop {dead : List Nat} {a : MC} {Q : MPost} {env fr : List (Nat × AV)} {h : Heap} : wpM G (.loop dead a) Q env fr h = LoopM G dead a h.length Q fr h := by
  simp only [wpM, LoopM]
  congr 1
  funext N
  exact rounds_env

theorem loop_step {dead : List Nat} {a : MC} {n : Nat} {Q : MPost} {fr : List (Nat × AV)} {h : Heap} (hq : wpM G a (seqQ (fun _ _ fr h => LoopM G dead a n Q fr h) Q) [] (junkAll dead fr) (truncD dead n (junkAll dead fr) h)) : LoopM G dead a n Q fr h := by
  obtain ⟨x, e1, f1, h1, k1, k2⟩ := wpM_at a hq
  cases x with
  | normal =>
    obtain ⟨N, hr⟩ := k1
    refine ⟨N + 1, ?_⟩
    simp only [roundsM]
    exact k2 _ (by rw [seqQ, rounds_env (env' := [])]; exact hr)
  | exit i => exact ⟨1, by simp only [roundsM]; exact k2 _ k1⟩
  | ret => exact ⟨1, by simp only [roundsM]; exact k2 _ k1⟩

theorem wpM_skip {Q : MPost} {env fr : List (Nat × AV)} {h : Heap} : wpM G .skip Q env fr h = Q .normal env fr h := rfl
theorem wpM_ret {Q : MPost} {env fr : List (Nat × AV)} {h : Heap} : wpM G .ret Q env fr h = Q .ret env fr h := rfl
theorem wpM_exit {id : Nat} {Q : MPost} {env fr : List (Nat × AV)} {h : Heap} : wpM G (.exit id) Q env fr h = Q (.exit id) env fr h := rfl
theorem wpM_seq {a b : MC} {Q : MPost} {env fr : List (Nat × AV)} {h : Heap} : wpM G (.seq a b) Q env fr h = wpM G a (seqQ (fun _ env fr h => wpM G b Q env fr h) Q) env fr h := rfl
theorem wpM_blk {id : Nat} {a : MC} {Q : MPost} {env fr : List (Nat × AV)} {h : Heap} : wpM G (.blk id a) Q env fr h = wpM G a (blkQ id Q) env fr h := rfl

/-- The state after a region. -/
def after (Q : MPost) : R → Prop
  | .ok env fr h => Q .normal env fr h
  | .bad => False
theorem wpM_reg {is : List MI} {Q : MPost} {env fr : List (Nat × AV)} {h : Heap} : wpM G (.reg is) Q env fr h = after Q (run G false is (.ok [] fr h)) := by
  simp only [wpM, after]; split <;> rename_i hr <;> rw [hr]
theorem wpM_rgd {is : List MI} {Q : MPost} {env fr : List (Nat × AV)} {h : Heap} : wpM G (.rgd is) Q env fr h = after Q (run G true is (.ok [] fr h)) := by
  simp only [wpM, after]; split <;> rename_i hr <;> rw [hr]
/-- A choice, once it is known what is chosen by. -/
def choose2 (Q1 Q2 : Prop) : Option AV → Prop
  | some (.bool t) => if t then Q1 else Q2
  | _ => False
theorem wpM_ite {c : At} {a b : MC} {Q : MPost} {env fr : List (Nat × AV)} {h : Heap} : wpM G (.ite c a b) Q env fr h = choose2 (wpM G a Q env fr h) (wpM G b Q env fr h) (getA (getT env fr) c) := by
  simp only [wpM, choose2]; rfl

end
end Go.Proofs.YtmjdgpiofhildaaGreatDoor

namespace Go.Proofs.YtmjdgpiofhildaaGreatDoor
open Go.RowKit

/-- What is still to come. -/
inductive MK where
  | seq (b : MC)
  | blk (id : Nat)
  | loop (dead : List Nat) (a : MC) (n : Nat)

def contM (G : Gam) : List MK → MPost → MPost
  | [], Q => Q
  | .seq b :: ks, Q => seqQ (fun _ env fr h => wpM G b (contM G ks Q) env fr h) (contM G ks Q)
  | .blk id :: ks, Q => blkQ id (contM G ks Q)
  | .loop d a n :: ks, Q => seqQ (fun _ _ fr h => LoopM G d a n (contM G ks Q) fr h) (contM G ks Q)

/-- Code comes up. -/
def goM (G : Gam) (c : MC) (ks : List MK) (Q : MPost) (env fr : List (Nat × AV)) (h : Heap) : Prop := wpM G c (contM G ks Q) env fr h
/-- Something is over. -/
def exM (G : Gam) (x : MX) (ks : List MK) (Q : MPost) (env fr : List (Nat × AV)) (h : Heap) : Prop := contM G ks Q x env fr h
/-- A loop's head. -/
def headM (G : Gam) (d : List Nat) (a : MC) (n : Nat) (ks : List MK) (Q : MPost) (fr : List (Nat × AV)) (h : Heap) : Prop := LoopM G d a n (contM G ks Q) fr h
/-- Operations come up. -/
def regM (G : Gam) (s : Bool) (is : List MI) (ks : List MK) (Q : MPost) (env fr : List (Nat × AV)) (h : Heap) : Prop := after (contM G ks Q) (run G s is (.ok env fr h))
/-- An operation has yielded. -/
def bindM (G : Gam) (s : Bool) (dst : Option Nat) (kept : Bool) (is : List MI) (ks : List MK) (Q : MPost) (env fr : List (Nat × AV)) : Option (AV × Heap) → Prop
  | none => False
  | some (v, h) => match dst with
    | none => regM G s is ks Q env fr h
    | some t => if kept then regM G s is ks Q env (upd t v fr) h else regM G s is ks Q ((t, v) :: env) fr h
/-- What an operation yields, its operands known. -/
def opV (G : Gam) (s : Bool) (h : Heap) (o : AO) : Option (List AV) → Option (AV × Heap)
  | some vs => if s && !o.loud then (evalStill G h o vs).map fun v => (v, h) else evalAll G h o vs
  | none => none
def guardV (want : Bool) (h : Heap) (r : Option (AV × Heap)) : Option AV → Option (AV × Heap)
  | some (.bool b) => if b = want then r else some (skipped, h)
  | some (.tup []) => some (skipped, h)
  | _ => none

section
variable {G : Gam} {s : Bool} {ks : List MK} {Q : MPost} {env fr : List (Nat × AV)} {h : Heap}

theorem wpM_go {c : MC} : wpM G c Q env fr h = goM G c [] Q env fr h := rfl
@[simp] theorem go_skip : goM G .skip ks Q env fr h = exM G .normal ks Q env fr h := rfl
@[simp] theorem go_ret : goM G .ret ks Q env fr h = exM G .ret ks Q env fr h := rfl
@[simp] theorem go_exit {id : Nat} : goM G (.exit id) ks Q env fr h = exM G (.exit id) ks Q env fr h := rfl
@[simp] theorem go_seq {a b : MC} : goM G (.seq a b) ks Q env fr h = goM G a (.seq b :: ks) Q env fr h := rfl
@[simp] theorem go_blk {id : Nat} {a : MC} : goM G (.blk id a) ks Q env fr h = goM G a (.blk id :: ks) Q env fr h := rfl
@[simp] theorem go_loop {d : List Nat} {a : MC} : goM G (.loop d a) ks Q env fr h = headM G d a h.length ks Q fr h := wpM_loop
@[simp] theorem go_reg {is : List MI} : goM G (.reg is) ks Q env fr h = regM G false is ks Q [] fr h := wpM_reg
/-- A region with early and late looks, step by step. -/
def regE (G : Gam) (h0 : Heap) (is : List ME) (ks : List MK) (Q : MPost) (pd : Pend) (env fr : List (Nat × AV)) (h : Heap) : Prop := runP G h0 is (fun e f h => exM G .normal ks Q e f h) pd env fr h
def bindE (G : Gam) (h0 : Heap) (dst : Option Nat) (kept : Bool) (is : List ME) (ks : List MK) (Q : MPost) (pf : AV → Pend) (env fr : List (Nat × AV)) : Option (AV × Heap) → Prop
  | none => False
  | some (v, h) => match dst with
    | none => regE G h0 is ks Q (pf v) env fr h
    | some t => if kept then regE G h0 is ks Q (pf v) env (upd t v fr) h else regE G h0 is ks Q (pf v) ((t, v) :: env) fr h
/-- What came early is what came. -/
def sameE (h0 : Heap) (r0 r : Option (AV × Heap)) : Prop := ∀ v h, r = some (v, h) → r0 = some (v, h0)
@[simp] theorem sameE_some {h0 h : Heap} {v : AV} {r0 : Option (AV × Heap)} : sameE h0 r0 (some (v, h)) = (r0 = some (v, h0)) := by
  apply propext
  exact ⟨fun k => k v h rfl, fun k v' h' e => by cases e; exact k⟩
/-- What comes late is what came. -/
def lateC (G : Gam) (m : MI) (env fr : List (Nat × AV)) (v : AV) : Heap → Prop := fun h => stepV G true m (getT env fr) h = some (v, h)
@[simp] theorem pdDue_nil : pdDue h [] = True := rfl
@[simp] theorem pdDue_zero {m : MI} {e f : List (Nat × AV)} {v : AV} {r : Pend} : pdDue h ((0, lateC G m e f v) :: r) = (stepV G true m (getT e f) h = some (v, h) ∧ pdDue h r) := rfl
@[simp] theorem pdDue_succ {n : Nat} {c : Heap → Prop} {r : Pend} : pdDue h ((n + 1, c) :: r) = pdDue h r := rfl
@[simp] theorem pdNext_nil : pdNext [] = [] := rfl
@[simp] theorem pdNext_zero {c : Heap → Prop} {r : Pend} : pdNext ((0, c) :: r) = pdNext r := rfl
@[simp] theorem pdNext_succ {n : Nat} {c : Heap → Prop} {r : Pend} : pdNext ((n + 1, c) :: r) = (n, c) :: pdNext r := rfl
@[simp] theorem pdNew_nil {m : MI} {v : AV} : pdNew G m env fr v [] = [] := rfl
@[simp] theorem pdNew_cons {m : MI} {v : AV} {d : Nat} {r : List Nat} : pdNew G m env fr v (d :: r) = (d, lateC G m env fr v) :: pdNew G m env fr v r := rfl
@[simp] theorem go_rge {is : List ME} : goM G (.rge is) ks Q env fr h = regE G h is ks Q [] [] fr h := rfl
@[simp] theorem regE_nil {h0 : Heap} {pd : Pend} : regE G h0 [] ks Q pd env fr h = (pdDue h pd ∧ exM G .normal ks Q env fr h) := rfl
@[simp] theorem regE_plain {h0 : Heap} {pd : Pend} {ls : List Nat} {g : Option (Nat × Bool)} {d : Option Nat} {k : Bool} {o : AO} {as : List At} {is : List ME} : regE G h0 ((false, ls, ⟨g, d, k, o, as⟩) :: is) ks Q pd env fr h = (pdDue h pd ∧ bindE G h0 d k is ks Q (fun v => pdNew G ⟨g, d, k, o, as⟩ env fr v ls ++ pdNext pd) env fr (stepV G true ⟨g, d, k, o, as⟩ (getT env fr) h)) := by
  unfold regE
  simp only [runP]
  congr 1
  cases stepV G true ⟨g, d, k, o, as⟩ (getT env fr) h with
  | none => rfl
  | some r => obtain ⟨v, h'⟩ := r; cases d <;> simp [bindE, regE]
@[simp] theorem regE_early {h0 : Heap} {pd : Pend} {ls : List Nat} {g : Option (Nat × Bool)} {d : Option Nat} {k : Bool} {o : AO} {as : List At} {is : List ME} : regE G h0 ((true, ls, ⟨g, d, k, o, as⟩) :: is) ks Q pd env fr h = (pdDue h pd ∧ sameE h0 (stepV G true ⟨g, d, k, o, as⟩ (getT env fr) h0) (stepV G true ⟨g, d, k, o, as⟩ (getT env fr) h) ∧ bindE G h0 d k is ks Q (fun v => pdNew G ⟨g, d, k, o, as⟩ env fr v ls ++ pdNext pd) env fr (stepV G true ⟨g, d, k, o, as⟩ (getT env fr) h)) := by
  unfold regE
  simp only [runP]
  congr 1
  cases hs : stepV G true ⟨g, d, k, o, as⟩ (getT env fr) h with
  | none => simp [bindE]
  | some r => obtain ⟨v, h'⟩ := r; rw [sameE_some]; cases d <;> simp [bindE, regE]
@[simp] theorem bindE_none {h0 : Heap} {is : List ME} {kept : Bool} {v : AV} {pf : AV → Pend} : bindE G h0 none kept is ks Q pf env fr (some (v, h)) = regE G h0 is ks Q (pf v) env fr h := rfl
@[simp] theorem bindE_env {h0 : Heap} {is : List ME} {t : Nat} {v : AV} {pf : AV → Pend} : bindE G h0 (some t) false is ks Q pf env fr (some (v, h)) = regE G h0 is ks Q (pf v) ((t, v) :: env) fr h := rfl
@[simp] theorem bindE_fr {h0 : Heap} {is : List ME} {t : Nat} {v : AV} {pf : AV → Pend} : bindE G h0 (some t) true is ks Q pf env fr (some (v, h)) = regE G h0 is ks Q (pf v) env (upd t v fr) h := rfl
@[simp] theorem go_rgd {is : List MI} : goM G (.rgd is) ks Q env fr h = regM G true is ks Q [] fr h := wpM_rgd
theorem go_ite_true {c : At} {a b : MC} (hc : getA (getT env fr) c = some (.bool true)) : goM G (.ite c a b) ks Q env fr h = goM G a ks Q env fr h := by
  simp only [goM, wpM_ite, hc, choose2, if_true]
theorem go_ite_false {c : At} {a b : MC} (hc : getA (getT env fr) c = some (.bool false)) : goM G (.ite c a b) ks Q env fr h = goM G b ks Q env fr h := by
  simp only [goM, wpM_ite, hc, choose2, Bool.false_eq_true, if_false]
/-- A choice: its condition looked up first. -/
def iteM (G : Gam) (a b : MC) (ks : List MK) (Q : MPost) (env fr : List (Nat × AV)) (h : Heap) : Option AV → Prop
  | some (.bool t) => goM G (if t then a else b) ks Q env fr h
  | _ => False
@[simp] theorem go_ite {c : At} {a b : MC} : goM G (.ite c a b) ks Q env fr h = iteM G a b ks Q env fr h (getA (getT env fr) c) := by
  simp only [goM, wpM_ite]
  generalize getA (getT env fr) c = r
  cases r with
  | none => rfl
  | some v => cases v <;> first | rfl | (rename_i t; cases t <;> rfl)
@[simp] theorem ite_true' {a b : MC} : iteM G a b ks Q env fr h (some (.bool true)) = goM G a ks Q env fr h := rfl
@[simp] theorem ite_false' {a b : MC} : iteM G a b ks Q env fr h (some (.bool false)) = goM G b ks Q env fr h := rfl
theorem ite_split {a b : MC} {t : Bool} (h1 : t = true → goM G a ks Q env fr h) (h2 : t = false → goM G b ks Q env fr h) : iteM G a b ks Q env fr h (some (.bool t)) := by
  cases t
  · exact h2 rfl
  · exact h1 rfl

@[simp] theorem ex_nil {x : MX} : exM G x [] Q env fr h = Q x env fr h := rfl
@[simp] theorem ex_normal_seq {b : MC} : exM G .normal (.seq b :: ks) Q env fr h = goM G b ks Q env fr h := rfl
@[simp] theorem ex_exit_seq {b : MC} {i : Nat} : exM G (.exit i) (.seq b :: ks) Q env fr h = exM G (.exit i) ks Q env fr h := rfl
@[simp] theorem ex_ret_seq {b : MC} : exM G .ret (.seq b :: ks) Q env fr h = exM G .ret ks Q env fr h := rfl
@[simp] theorem ex_normal_blk {id : Nat} : exM G .normal (.blk id :: ks) Q env fr h = exM G .normal ks Q env fr h := rfl
@[simp] theorem ex_ret_blk {id : Nat} : exM G .ret (.blk id :: ks) Q env fr h = exM G .ret ks Q env fr h := rfl
@[simp] theorem ex_exit_blk {id i : Nat} : exM G (.exit i) (.blk id :: ks) Q env fr h = exM G (if i = id then .normal else .exit i) ks Q env fr h := by
  simp only [exM, contM, blkQ]; split <;> rfl
@[simp] theorem ex_normal_loop {d : List Nat} {a : MC} {n : Nat} : exM G .normal (.loop d a n :: ks) Q env fr h = headM G d a n ks Q fr h := rfl
@[simp] theorem ex_exit_loop {d : List Nat} {a : MC} {n i : Nat} : exM G (.exit i) (.loop d a n :: ks) Q env fr h = exM G (.exit i) ks Q env fr h := rfl
@[simp] theorem ex_ret_loop {d : List Nat} {a : MC} {n : Nat} : exM G .ret (.loop d a n :: ks) Q env fr h = exM G .ret ks Q env fr h := rfl

theorem head_stepD {d : List Nat} {a : MC} {n : Nat} (hq : goM G a (.loop d a n :: ks) Q [] (junkAll d fr) (truncD d n (junkAll d fr) h)) : headM G d a n ks Q fr h := loop_step hq
theorem head_step {d : List Nat} {a : MC} {n : Nat} (hq : goM G a (.loop d a n :: ks) Q [] (junkAll d fr) (trunc n (junkAll d fr) h)) (hd : d.contains 999999 = false := by rfl) : headM G d a n ks Q fr h := by
  refine head_stepD ?_
  unfold truncD; rw [hd]; exact hq

@[simp] theorem reg_nil : regM G s [] ks Q env fr h = exM G .normal ks Q env fr h := rfl
@[simp] theorem reg_cons {i : MI} {is : List MI} : regM G s (i :: is) ks Q env fr h = bindM G s i.dst i.kept is ks Q env fr (stepV G s i (getT env fr) h) := by
  simp only [regM, run, evalI, bindM]
  cases stepV G s i (getT env fr) h with
  | none => simp only [bindR, run_bad, after]
  | some vh =>
    obtain ⟨v, h'⟩ := vh
    simp only [bindR]
    cases i.dst with
    | none => rfl
    | some t => simp only []; split <;> rfl
@[simp] theorem bind_none {is : List MI} {kept : Bool} {v : AV} : bindM G s none kept is ks Q env fr (some (v, h)) = regM G s is ks Q env fr h := rfl
@[simp] theorem bind_env {is : List MI} {t : Nat} {v : AV} : bindM G s (some t) false is ks Q env fr (some (v, h)) = regM G s is ks Q ((t, v) :: env) fr h := rfl
@[simp] theorem bind_fr {is : List MI} {t : Nat} {v : AV} : bindM G s (some t) true is ks Q env fr (some (v, h)) = regM G s is ks Q env (upd t v fr) h := rfl

@[simp] theorem step_op {d : Option Nat} {k : Bool} {o : AO} {args : List At} {e : Nat → Option AV} : stepV G s ⟨none, d, k, o, args⟩ e h = opV G s h o (getAs e args) := by
  simp only [stepV, opV]; split <;> rename_i hx <;> rw [hx]
@[simp] theorem step_guard {d : Option Nat} {k : Bool} {o : AO} {args : List At} {e : Nat → Option AV} {t : Nat} {want : Bool} : stepV G s ⟨some (t, want), d, k, o, args⟩ e h = guardV want h (opV G s h o (getAs e args)) (e t) := by
  simp only [stepV]
  generalize e t = r
  cases r with
  | none => rfl
  | some v => cases v <;> first | rfl | (rename_i b; simp only [guardV, opV]; generalize getAs e args = x; cases x <;> rfl) | (rename_i vs; cases vs <;> rfl)
/-- A truth value that holds, kept closed. -/
def On (b : Bool) : Prop := b = true
instance {b : Bool} : Decidable (On b) := inferInstanceAs (Decidable (b = true))
@[simp] theorem On_true : On true = True := by simp [On]
@[simp] theorem On_false : On false = False := by simp [On]
@[simp] theorem On_not {b : Bool} : On (!b) = ¬ On b := by simp [On]
@[simp] theorem On_decide {p : Prop} [Decidable p] : On (decide p) = p := by simp [On]
@[simp] theorem decide_On {b : Bool} : decide (On b) = b := by cases b <;> rfl
theorem On_iff {b : Bool} : On b ↔ b = true := Iff.rfl
theorem guard_bool {want b : Bool} {r : Option (AV × Heap)} : guardV want h r (some (.bool b)) = if b = want then r else some (skipped, h) := rfl
@[simp] theorem guard_on {b : Bool} {r : Option (AV × Heap)} : guardV true h r (some (.bool b)) = if On b then r else some (skipped, h) := rfl
@[simp] theorem guard_off {b : Bool} {r : Option (AV × Heap)} : guardV false h r (some (.bool b)) = if On b then some (skipped, h) else r := by cases b <;> rfl
@[simp] theorem guard_skip {want : Bool} {r : Option (AV × Heap)} : guardV want h r (some skipped) = some (skipped, h) := rfl

@[simp] theorem getAs_nil {e : Nat → Option AV} : getAs e [] = some [] := rfl
/-- One operand more. -/
def consO : Option AV → Option (List AV) → Option (List AV)
  | some v, some vs => some (v :: vs)
  | _, _ => none
@[simp] theorem getAs_cons {e : Nat → Option AV} {a : At} {as : List At} : getAs e (a :: as) = consO (getA e a) (getAs e as) := by
  simp only [getAs]
  generalize getA e a = x
  generalize getAs e as = y
  cases x <;> cases y <;> rfl
@[simp] theorem consO_some {v : AV} {vs : List AV} : consO (some v) (some vs) = some (v :: vs) := rfl
@[simp] theorem getA_t {e : Nat → Option AV} {n : Nat} : getA e (.t n) = e n := rfl
@[simp] theorem getA_c {e : Nat → Option AV} {v : AV} : getA e (.c v) = some v := rfl
@[simp] theorem getT_hit {t : Nat} {v : AV} : getT ((t, v) :: env) fr t = some v := by simp [getT, lkp]
@[simp] theorem getT_miss {t k : Nat} {v : AV} (hne : t ≠ k) : getT ((k, v) :: env) fr t = getT env fr t := by simp [getT, lkp, hne]
@[simp] theorem getT_nil {t : Nat} : getT [] fr t = lkp t fr := rfl
@[simp] theorem lkp_hit {t : Nat} {v : AV} : lkp t ((t, v) :: fr) = some v := by simp [lkp]
@[simp] theorem lkp_miss {t k : Nat} {v : AV} (hne : t ≠ k) : lkp t ((k, v) :: fr) = lkp t fr := by simp [lkp, hne]
@[simp] theorem upd_hit {t : Nat} {v x : AV} : upd t v ((t, x) :: fr) = (t, v) :: fr := by simp [upd]
@[simp] theorem upd_miss {t k : Nat} {v x : AV} (hne : t ≠ k) : upd t v ((k, x) :: fr) = (k, x) :: upd t v fr := by simp [upd, hne]

/-- An operation that only looks: in whatever order. -/
theorem opV_quiet {o : AO} {vs : List AV} (hq : o.quiet = true) : opV G s h o (some vs) = (evalPure h o vs).map fun v => (v, h) := by
  have hl : o.loud = false := by cases o <;> simp_all [AO.loud, AO.quiet]
  have he : evalAll G h o vs = evalAO G h o vs := by cases o <;> first | rfl | cases hq
  cases s <;> simp only [opV, he, hl, Bool.not_false, Bool.and_self, Bool.false_and, if_true, Bool.false_eq_true, if_false, evalStill, evalAO, hq, Bool.true_and]
  cases evalPure h o vs <;> rfl
theorem opV_eff {o : AO} {vs : List AV} (ht : o.turns = true) : opV G s h o (some vs) = evalEff G h o vs := by
  have hq : o.loud = true := by cases o <;> first | exact ht | rfl
  have hl : o.quiet = false := by cases o <;> simp_all [AO.loud, AO.quiet]
  have he : evalAll G h o vs = evalAO G h o vs := by cases o <;> first | rfl | cases ht
  simp only [opV, he, hq, Bool.not_true, Bool.and_false, Bool.false_eq_true, if_false, evalAO, hl]
/-- With what is done ahead of it. -/
theorem opV_pre {ks : List PK} {o : AO} {vs : List AV} (ht : o.turns = true) : opV G s h (.pre ks o) (some vs) = (preAVs ks h vs).bind fun q => opV G false q.1 o (some q.2) := by
  have he : ∀ h vs, evalAll G h o vs = evalAO G h o vs := fun h vs => by cases o <;> first | rfl | cases ht
  have hq : o.loud = true := by cases o <;> first | exact ht | rfl
  simp only [opV, AO.loud, AO.quiet, Bool.not_false, Bool.not_true, Bool.and_false, Bool.false_and, Bool.false_eq_true, if_false]
  show (match preAVs ks h vs with
    | some (h1, vs1) => evalAO G h1 o vs1
    | none => none) = _
  cases preAVs ks h vs with
  | none => rfl
  | some q => exact (he q.1 q.2).symm

@[simp] theorem op_mv {x : AV} : opV G s h .mv (some [x]) = some (x, h) := by rw [opV_quiet rfl]; rfl
@[simp] theorem op_pick {c : Bool} {x y : AV} : opV G s h .pick (some [.bool c, x, y]) = some (if On c then x else y, h) := by rw [opV_quiet rfl]; rfl
@[simp] theorem op_strid {x : List UInt8} : opV G s h .strid (some [.str x]) = some (.str x, h) := by rw [opV_quiet rfl]; rfl
@[simp] theorem op_bin {o : BinOp} {x y : AV} : opV G s h (.bin o) (some [x, y]) = (binAV o x y).map fun v => (v, h) := by rw [opV_quiet rfl]; rfl
@[simp] theorem op_eqB {n b c : Bool} : opV G s h (.eqB n) (some [.bool b, .bool c]) = some (.bool (if n then !(b == c) else b == c), h) := by rw [opV_quiet rfl]; rfl
@[simp] theorem op_un {o : UnOp} {x : AV} : opV G s h (.un o) (some [x]) = (unAV o x).map fun v => (v, h) := by rw [opV_quiet rfl]; rfl
@[simp] theorem op_conv {k k' : IntKind} {n : Int} : opV G s h (.conv k) (some [.int k' n]) = some (.int k (k.wrap n), h) := by rw [opV_quiet rfl]; rfl
@[simp] theorem op_fadr_ptr {o l off : Nat} : opV G s h (.fadr o) (some [.ptr l off]) = some (.ptr l (off + o), h) := by rw [opV_quiet rfl]; rfl
@[simp] theorem op_fadr_fptr {o off : Nat} {row : List AV} : opV G s h (.fadr o) (some [.fptr row off]) = some (.fptr row (off + o), h) := by rw [opV_quiet rfl]; rfl
@[simp] theorem op_fadr_eptr {o l v i off : Nat} : opV G s h (.fadr o) (some [.eptr l v i off]) = some (.eptr l v i (off + o), h) := by rw [opV_quiet rfl]; rfl
@[simp] theorem op_fld {o n : Nat} {g : Bool} {cs : List AV} : opV G s h (.fld o n g) (some [.agg cs]) = (mkVal g n (cut cs o n)).map fun v => (v, h) := by rw [opV_quiet rfl]; rfl
@[simp] theorem op_iadr {n : Nat} {x i : AV} : opV G s h (.iadr n) (some [x, i]) = (iadrAV n h x i).map fun v => (v, h) := by rw [opV_quiet rfl]; rfl
@[simp] theorem op_ld {n : Nat} {g : Bool} {x : AV} : opV G s h (.ld n g) (some [x]) = (loadAV n g h x).map fun v => (v, h) := by rw [opV_quiet rfl]; rfl
@[simp] theorem op_len {k : Nat} {x : AV} : opV G s h (.len k) (some [x]) = (lenAV h k x).map fun v => (v, h) := by rw [opV_quiet rfl]; rfl
@[simp] theorem op_ext {i : Nat} {vs : List AV} : opV G s h (.ext i) (some [.tup vs]) = (vs[i]?).map fun v => (v, h) := by rw [opV_quiet rfl]; rfl
@[simp] theorem op_mkfn {f : FuncId} {vs : List AV} : opV G s h (.mkfn f) (some vs) = some (.fn f vs, h) := by rw [opV_quiet rfl]; rfl
@[simp] theorem op_mkif {t : TypeId} {x : AV} : opV G s h (.mkif t) (some [x]) = some (.iface t x, h) := by rw [opV_quiet rfl]; rfl
@[simp] theorem op_bld {z : List AV} {ps : List (Nat × Nat)} {vs : List AV} : opV G s h (.bld z ps) (some vs) = (bldAV z ps vs).map fun v => (.agg v, h) := by rw [opV_quiet rfl]; simp only [evalPure]; cases bldAV z ps vs <;> rfl
@[simp] theorem op_eqA {n : Bool} {kk : List EK} {xs ys : List AV} : opV G s h (.eqA n kk) (some [.agg xs, .agg ys]) = if xs.length = kk.length ∧ ys.length = kk.length then (eqCells kk xs ys).map (fun b => (.bool (if n then !b else b), h)) else none := by
  rw [opV_quiet rfl]; simp only [evalPure]; split
  · cases eqCells kk xs ys <;> rfl
  · rfl
@[simp] theorem op_alloc {z : List AV} : opV G s h (.alloc z) (some []) = some (.ptr h.length 0, h ++ [.cells z]) := by rw [opV_eff rfl]; rfl
@[simp] theorem op_newnil {n : Nat} : opV G s h (.newnil n) (some []) = some (.own h.length 0 0, h ++ [.arr n 0 [] true]) := by rw [opV_eff rfl]; rfl
@[simp] theorem op_mkmap : opV G s h .mkmap (some []) = some (.map h.length, h ++ [.map []]) := by rw [opV_eff rfl]; rfl
@[simp] theorem op_st {n : Nat} {a v : AV} : opV G s h (.st n) (some [a, v]) = (stAV n h a v).map fun h' => (.junk, h') := by rw [opV_eff rfl]; rfl

/-- A call of what keeps to itself. -/
theorem op_call {f : FuncId} {F : List AV → Option AV} {args us : List AV} {r : AV} (hf : G f = some (.pure F)) (hv : viewL h args = some us) (hF : F us = some r) (ho : scalar r = true ∨ ownsL args = []) :
    opV G s h (.call f) (some args) = some (r, h) := by
  have e1 : evalStill G h (.call f) args = some r := by
    simp only [evalStill, AO.quiet, Bool.false_eq_true, if_false, hf, hv, hF]
    rcases ho with ho | ho
    · rw [if_pos ho]
    · split <;> simp [ho]
  have e2 := evalStill_all e1
  cases s
  · simp only [opV, Bool.false_and, Bool.false_eq_true, if_false]; exact e2
  · simp only [opV, AO.loud, Bool.not_false, Bool.and_self, if_true, e1, Option.map_some]
/-- A call whose result is no plain value, of arguments that are owned. -/
theorem op_call_frz {f : FuncId} {F : List AV → Option AV} {args us : List AV} {r : AV} (hf : G f = some (.pure F)) (hv : viewL h args = some us) (hF : F us = some r) (ho : scalar r = false) :
    opV G false h (.call f) (some args) = some (r, freezeAll h (ownsL args)) := by
  simp only [opV, Bool.false_and, Bool.false_eq_true, if_false, evalAll, evalAO, AO.quiet, evalEff, callAV, hf, hv, hF, ho]

end
end Go.Proofs.YtmjdgpiofhildaaGreatDoor

namespace Go.Proofs.YtmjdgpiofhildaaGreatDoor
open Go.RowKit
section
variable {G : Gam} {s : Bool} {ks : List MK} {Q : MPost} {env fr : List (Nat × AV)} {h : Heap}

@[simp] theorem ex_ret_all {ks : List MK} : exM G .ret ks Q env fr h = Q .ret env fr h := by
  induction ks with
  | nil => rfl
  | cons k ks ih => cases k <;> simpa using ih

theorem head_go {d : List Nat} {a a' : MC} {n : Nat} (ha : a = a') (hq : goM G a' (.loop d a n :: ks) Q [] (junkAll d fr) (trunc n (junkAll d fr) h)) (hd : d.contains 999999 = false := by rfl) : headM G d a n ks Q fr h := by
  subst ha; exact head_step hq hd

/-- A loop that is marked: nothing is cut. -/
theorem head_goN {d : List Nat} {a a' : MC} {n : Nat} (ha : a = a') (hq : goM G a' (.loop d a n :: ks) Q [] (junkAll d fr) h) (hd : d.contains 999999 = true := by rfl) : headM G d a n ks Q fr h := by
  subst ha; refine head_stepD ?_; unfold truncD; rw [hd]; exact hq

theorem junkAll_idem (d : List Nat) : ∀ fr : List (Nat × AV), junkAll d (junkAll d fr) = junkAll d fr
  | [] => rfl
  | (k, v) :: r => by
    simp only [junkAll, junkAll_idem d r]
    by_cases h : k ∈ d <;> simp [h]
theorem trunc_idem (n : Nat) (fr : List (Nat × AV)) (h : Heap) : trunc n fr (trunc n fr h) = trunc n fr h := by
  by_cases hc : (lowFr n fr && lowH n (h.take n)) = true
  · have e : trunc n fr h = h.take n := by simp only [trunc, hc, if_true]
    rw [e]
    simp only [trunc, List.take_take, Nat.min_self, ite_self]
  · have e : trunc n fr h = h := by simp only [trunc, hc]; rfl
    rw [e, e]

/-- At the head of a loop only what is not dead counts. -/
theorem head_of {d : List Nat} {a : MC} {n : Nat} (hq : headM G d a n ks Q (junkAll d fr) (trunc n (junkAll d fr) h)) (hd : d.contains 999999 = false := by rfl) : headM G d a n ks Q fr h := by
  obtain ⟨N, hr⟩ := hq
  refine ⟨N, ?_⟩
  cases N with
  | zero => exact hr
  | succ N =>
    simp only [roundsM] at hr ⊢
    simp only [truncD, hd, Bool.false_eq_true, if_false] at hr ⊢
    rw [junkAll_idem, trunc_idem] at hr
    exact hr

/-- An append to what is owned. -/
theorem op_app {n b l ver k : Nat} {x : AV} {new rows : List (List AV)} (hx : rowsOf h x = some new) (hl : h[l]? = some (.arr n ver rows true)) (hk : k = rows.length) (hs : sizesOk n new = true) (hne : new ≠ []) (h1 : (k + new.length) * b ≤ byteMax) (h2 : k + new.length ≤ byteMax) :
    opV G s h (.app false n b) (some [.own l ver k, x]) = some (.own l (ver + new.length) (k + new.length), h.set l (.arr n (ver + new.length) (rows ++ new) true)) := by
  rw [opV_eff rfl]
  simp only [evalEff, appRows, Bool.false_eq_true, if_false, hx, hs, if_true, appAV, hl]
  rw [if_pos ⟨trivial, hk, trivial, trivial⟩, if_neg hne, if_pos ⟨h1, h2⟩, tagJoin_none]
/-- An append of bytes to an array whose type is known. -/
theorem op_appT {l ver k : Nat} {e : TypeId} {str : Bool} {x : AV} {new rows : List (List AV)} (hx : appRows h str x = some new) (hl : h[l]? = some (.arrT (some e) 1 ver rows true)) (hk : k = rows.length) (hs : sizesOk 1 new = true) (hne : new ≠ []) (h1 : k + new.length ≤ byteMax) :
    opV G s h (.appT str 1 1 e) (some [.own l ver k, x]) = some (.own l (ver + new.length) (k + new.length), h.set l (.arrT (some e) 1 (ver + new.length) (rows ++ new) true)) := by
  rw [opV_eff rfl]
  simp only [evalEff, hx, hs, if_true, appAV, hl]
  rw [if_pos ⟨trivial, hk, trivial, trivial⟩, if_neg hne, if_pos ⟨by rw [Nat.mul_one]; exact h1, h1⟩, tagJoin_same]
@[simp] theorem op_bsl {n : Nat} {vs : List AV} {s : Bool} (ho : ownsL vs = []) : opV G s h (.bsl false n) (some vs) = (viewL h vs).bind fun us => if sizesOk n (us.map AV.cells) ∧ onesOk (us.map AV.cells) ∧ 0 < n ∧ us.length * n ≤ 16777216 then some (.tsl (us.map AV.cells), h) else none := by
  cases s
  · simp only [opV, Bool.false_and, Bool.false_eq_true, if_false, evalAll, evalAO, AO.quiet, evalEff, frzL, ho, freezeAll]
    cases viewL h vs <;> rfl
  · simp only [opV, AO.loud, Bool.not_false, Bool.and_self, if_true, evalStill, AO.quiet, Bool.false_eq_true, if_false, ho]
    cases viewL h vs with
    | none => rfl
    | some us => simp only [Option.bind_some]; split <;> rfl

theorem iadr_sl {size i : Nat} {rows : List (List AV)} {row : List AV} {k : IntKind} (h1 : rows[i]? = some row) (h2 : row.length = size) : iadrAV size h (.sl rows) (.int k i) = some (.fptr row 0) := by
  simp [iadrAV, h1, h2]

@[simp] theorem load_fptr {size off : Nat} {agg : Bool} {row : List AV} : loadAV size agg h (.fptr row off) = mkVal agg size (cut row off size) := rfl
@[simp] theorem mkVal_one' {size : Nat} {v : AV} : mkVal false size [v] = some v := rfl

end
end Go.Proofs.YtmjdgpiofhildaaGreatDoor
