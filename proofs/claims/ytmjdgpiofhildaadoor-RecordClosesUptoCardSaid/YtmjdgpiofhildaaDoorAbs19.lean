/- A function: from its code, resolved, to what a call of it does. -/
import Derived.Test.YtmjdgpiofhildaaDoorAbs18
namespace Go.Proofs.YtmjdgpiofhildaaDoor
open Go.RowKit

inductive RV where
  | tmp (t : Nat)
  | cell (a size : Nat) (agg : Bool)
  deriving Inhabited

def compRV (P : Program) : ResultVar → Option RV
  | .tmp t => some (.tmp t)
  | .cell a t => match tsize P t, tagg P t with
    | some n, some g => some (.cell a n g)
    | _, _ => none

def compRVs (P : Program) : List ResultVar → Option (List RV)
  | [] => some []
  | x :: xs => match compRV P x, compRVs P xs with
    | some y, some ys => some (y :: ys)
    | _, _ => none

def resOne (e : Nat → Option AV) (h : Heap) : RV → Option AV
  | .tmp t => e t
  | .cell a size agg => match e a with
    | some p => loadAV size agg h p
    | none => none

def resL (e : Nat → Option AV) (h : Heap) : List RV → Option (List AV)
  | [] => some []
  | x :: xs => match resOne e h x, resL e h xs with
    | some v, some vs => some (v :: vs)
    | _, _ => none

def resAV (e : Nat → Option AV) (h : Heap) (rs : List RV) : Option AV :=
  match resL e h rs with
  | some [v] => some v
  | some vs => some (.tup vs)
  | none => none

/-- The slots at the start: what is handed in; the rest holds nothing. -/
def frInit : List Nat → List AV → List (Nat × AV)
  | [], _ => []
  | k :: ks, args => (k, (args[k]?).getD .junk) :: frInit ks args

/-- What a function that keeps to itself comes to. -/
def pureQ (rs : List RV) (r : AV) : MPost := fun x env fr h => (match x with | .exit _ => False | _ => True) ∧ ∃ v, resAV (getT env fr) h rs = some v ∧ view h v = some r
def genQ (rs : List RV) (r : AV) (h' : Heap) : MPost := fun x env fr h => (match x with | .exit _ => False | _ => True) ∧ resAV (getT env fr) h rs = some r ∧ h = h'

section
variable {P : Program} {B : Base} {C D : Cx} {h : Heap} {w w' : World} {G : Gam} {a : Act}

theorem resOne_sound (hi : Inv B C h w) {e : Nat → Option AV} (hr : RelT C e a) {x : ResultVar} {y : RV} {v : AV} (hc : compRV P x = some y) (hv : resOne e h y = some v) :
    ∃ u, Rel C v u ∧ (match x with | .tmp t => (pure (a.tmps.getD t undef) : Sem Value) | .cell b t => do loadVar t (← asAddr (a.tmps.getD b undef))).run P w = .ok u w := by
  cases x with
  | tmp t =>
    simp only [compRV, Option.some.injEq] at hc; subst hc
    obtain ⟨u, h1, h2⟩ := hr t v hv
    exact ⟨u, h2, by simp [h1]⟩
  | cell b t =>
    simp only [compRV] at hc
    split at hc
    · rename_i n g hn hg
      simp only [Option.some.injEq] at hc; subst hc
      simp only [resOne] at hv
      split at hv
      · rename_i p hp
        obtain ⟨x, h1, h2⟩ := hr b p hp
        obtain ⟨u, k1, k2⟩ := loadAV_sound hi hg hn h2 hv
        have k3 := k2 w (Below.refl _ _)
        have hx : ∃ ad, x = .pointer (some ad) := by
          cases h2 <;> simp [loadAV] at hv <;> exact ⟨_, rfl⟩
        obtain ⟨ad, rfl⟩ := hx
        refine ⟨u, k1, ?_⟩
        simp only [Instr.loadAt, Instr.sureAddr, Sem.run_bind, Sem.run_pure, Result.andThen_ok] at k3
        simp [h1, asAddr, k3]
      · cases hv
    · cases hc

theorem resL_sound (hi : Inv B C h w) {e : Nat → Option AV} (hr : RelT C e a) : ∀ {xs : List ResultVar} {ys : List RV} {vs : List AV}, compRVs P xs = some ys → resL e h ys = some vs →
    ∃ us, RelL C vs us ∧ (xs.mapM (m := Sem) fun | .tmp t => (pure (a.tmps.getD t undef) : Sem Value) | .cell b t => do loadVar t (← asAddr (a.tmps.getD b undef))).run P w = .ok us w
  | [], ys, vs, hc, hv => by
    simp [compRVs] at hc; subst hc
    simp [resL] at hv; subst hv
    exact ⟨[], .nil, by simp⟩
  | x :: xs, ys, vs, hc, hv => by
    simp only [compRVs] at hc
    split at hc
    · rename_i y ys' h1 h2
      injection hc with hc; subst hc
      simp only [resL] at hv
      split at hv
      · rename_i v vs' h3 h4
        injection hv with hv; subst hv
        obtain ⟨u, k1, k2⟩ := resOne_sound hi hr h1 h3
        obtain ⟨us, k3, k4⟩ := resL_sound hi hr h2 h4
        refine ⟨u :: us, .cons k1 k3, ?_⟩
        rw [List.mapM_cons, Sem.run_bind, k2, Result.andThen_ok, Sem.run_bind, k4]
        simp
      · cases hv
    · cases hc

theorem resAV_sound (hi : Inv B C h w) {e : Nat → Option AV} (hr : RelT C e a) {fn : Func} {ys : List RV} {v : AV} (hc : compRVs P fn.results.toList = some ys) (hv : resAV e h ys = some v) :
    ∃ u, Rel C v u ∧ (results fn a.tmps).run P w = .ok u w := by
  unfold resAV at hv
  have run : ∀ us : List Value, (fn.results.toList.mapM (m := Sem) fun | .tmp t => (pure (a.tmps.getD t undef) : Sem Value) | .cell b t => do loadVar t (← asAddr (a.tmps.getD b undef))).run P w = .ok us w →
      (results fn a.tmps).run P w = .ok (if h : us.toArray.size = 1 then us.toArray[0] else .tuple us.toArray) w := fun us hu => by
    unfold results
    rw [Array.mapM_eq_mapM_toList]
    simp only [bind_map_left, Sem.run_bind, Sem.run_pure]
    exact (congrArg (fun r => Result.andThen r _) hu).trans rfl
  split at hv
  · rename_i x hx
    injection hv with hv; subst hv
    obtain ⟨us, k1, k2⟩ := resL_sound hi hr hc hx
    obtain ⟨u, us', rfl, k3, k4⟩ := k1.inv_cons
    have := k4.inv_nil; subst this
    exact ⟨u, k3, by rw [run _ k2]; simp⟩
  · rename_i vs hne hx
    injection hv with hv; subst hv
    obtain ⟨us, k1, k2⟩ := resL_sound hi hr hc hx
    refine ⟨.tuple us.toArray, .tup _ _ (by simpa using k1.1) (fun i c u hc hu => k1.2 i c u hc (by simpa using hu)), ?_⟩
    rw [run _ k2]
    have : us.length ≠ 1 := fun e => by
      have hl := k1.1
      rw [e] at hl
      match vs, hl with
      | [y], _ => exact hne y rfl
    rw [dif_neg (by simpa using this)]
  · cases hv

theorem lkp_frInit (args : List AV) : ∀ (ks : List Nat) (t : Nat) (x : AV), lkp t (frInit ks args) = some x → t ∈ ks ∧ x = (args[t]?).getD .junk
  | [], t, x, h => by simp [frInit, lkp] at h
  | k :: ks, t, x, h => by
    simp only [frInit, lkp] at h
    split at h
    · rename_i e; subst e; injection h with h; exact ⟨by simp, h.symm⟩
    · have := lkp_frInit args ks t x h; exact ⟨by simp [this.1], this.2⟩

/-- The frame at the start. -/
theorem start_ok (hi : Inv B C h w) {ks : List Nat} {n : Nat} (hks : ks.all (fun k => decide (k < n)) = true) {args : List AV} {vals : Array Value} (hr : RelL C args vals.toList) :
    StOK ks n B C [] (frInit ks args) h { tmps := vals ++ Array.replicate (n - vals.size) undef, defers := [] } w := by
  have hsz : n ≤ (vals ++ Array.replicate (n - vals.size) undef).size := by simp; omega
  refine ⟨hi, fun t x hx => ?_, fun t v hx => by simp [lkp] at hx, fun t v hx => ?_, hsz⟩
  · have hx' : lkp t (frInit ks args) = some x := hx
    obtain ⟨h1, rfl⟩ := lkp_frInit args ks t x hx'
    have ht : t < n := by simpa using List.all_eq_true.1 hks t h1
    cases ha : args[t]? with
    | some c =>
      obtain ⟨u, k1, k2⟩ := hr.get ha
      have hlt : t < vals.size := by have := (List.getElem?_eq_some_iff.1 k1).1; simpa using this
      refine ⟨u, ?_, k2⟩
      show (vals ++ Array.replicate (n - vals.size) undef)[t]? = some u
      rw [Array.getElem?_append_left hlt]
      simpa using k1
    | none =>
      have hlt : t < (vals ++ Array.replicate (n - vals.size) undef).size := by omega
      exact ⟨(vals ++ Array.replicate (n - vals.size) undef)[t], by simp [hlt], .junk _⟩
  · have := (lkp_frInit args ks t v hx).1
    simpa using this

theorem pure_of (hm : P.follows .mixedOrders = true) {gv : Nat → Option (List AV)} (hG : GamOK P gv G) {f : FuncId} {fn : Func} {c : Code} (hf : P.funcs[f]? = some fn) (hb : fn.body = some c) {ks ow : List Nat} {dl : List (List Nat)} {rs : List RV} {mc : MC}
    (hks : ks.all (fun k => decide (k < fn.ntmps)) = true) (hrs : compRVs P fn.results.toList = some rs) (hmc : (compC P gv ks fn.ntmps ow c dl).1 = mc) {F : List AV → Option AV}
    (hF : ∀ args r, F args = some r → wpM G mc (pureQ rs r) [] (frInit ks args) []) : PureOK P gv f F := by
  intro I w args r vals hI hgl hr hF'
  have hinv : Inv ⟨w.heap.size, I, gv⟩ (Cx.pure I) [] w := ⟨hI.cell, hI.one, fun l blk hb => by simp at hb, fun l l' blk blk' b hb => by simp at hb, fun l _ => ⟨rfl, fun _ => rfl⟩, fun l sz ver rows wr hb => by simp at hb, Nat.le_refl _, fun b o u _ hu => hu, hgl⟩
  have hst := start_ok (n := fn.ntmps) hinv hks hr
  have hq := hF args r hF'
  rw [← hmc] at hq
  have hw := wpM_sound hm hG c dl _ [] _ [] _ _ w hst (.refl _) (Below.refl _ _) rfl hq
  refine calls_of_wp hf hb (wp_mono hw fun e a' w' hp => ?_)
  obtain ⟨x, env, fr, h', C', k1, ⟨k2, v, k3, k4⟩, k5, k6, k7, k8⟩ := hp
  obtain ⟨u, r1, r2⟩ := resAV_sound k5.inv k5.rel hrs k3
  have hfz : frz h' v = some (r, freezeAll h' (owns v)) := by simp [frz, k4]
  obtain ⟨D, d1, d2, d3, d4, d5⟩ := frz_sound k5.inv hfz r1
  have fin : a'.defers = [] ∧ ∃ v, (results fn a'.tmps).run P w' = .ok v w' ∧ ∃ v' J, Ending.returned v = .returned v' ∧ Grown w I J ∧ Holds J w' ∧ Rel (Cx.pure J) r v' ∧ Below w.heap.size w w' :=
    ⟨k8, u, r2, u, D.im, rfl, ⟨fun b o u hu => d1.im _ _ _ (k6.im _ _ _ hu), fun b o u hu hb => d2.low b o u hb hu⟩, d2.holds, d3, k7⟩
  cases x <;> cases e <;> simp only [MX.is] at k1 <;> (try exact k1.elim) <;> (try exact k2.elim)
  · exact fin
  · exact fin

theorem gen_of (hm : P.follows .mixedOrders = true) {gv : Nat → Option (List AV)} (hG : GamOK P gv G) {f : FuncId} {fn : Func} {c : Code} (hf : P.funcs[f]? = some fn) (hb : fn.body = some c) {ks ow : List Nat} {dl : List (List Nat)} {rs : List RV} {mc : MC}
    (hks : ks.all (fun k => decide (k < fn.ntmps)) = true) (hrs : compRVs P fn.results.toList = some rs) (hmc : (compC P gv ks fn.ntmps ow c dl).1 = mc) {F : List AV → Heap → Option (AV × Heap)}
    (hF : ∀ args h r h', F args h = some (r, h') → wpM G mc (genQ rs r h') [] (frInit ks args) h) : GenOK P gv f F := by
  intro B C h w args r h' vals hgv hi hr hF'
  subst hgv
  have hst := start_ok (n := fn.ntmps) hi hks hr
  have hq := hF args h r h' hF'
  rw [← hmc] at hq
  have hw := wpM_sound hm hG c dl _ [] _ h _ _ w hst (.refl _) (Below.refl _ _) rfl hq
  refine calls_of_wp hf hb (wp_mono hw fun e a' w' hp => ?_)
  obtain ⟨x, env, fr, h2, C', k1, ⟨k2, k3, k4⟩, k5, k6, k7, k8⟩ := hp
  subst k4
  obtain ⟨u, r1, r2⟩ := resAV_sound k5.inv k5.rel hrs k3
  have fin : a'.defers = [] ∧ ∃ v, (results fn a'.tmps).run P w' = .ok v w' ∧ ∃ v' D, Ending.returned v = .returned v' ∧ C.Le D ∧ Inv B D h2 w' ∧ Rel D r v' ∧ Below B w w' :=
    ⟨k8, u, r2, u, C', rfl, k6, k5.inv, r1, k7⟩
  cases x <;> cases e <;> simp only [MX.is] at k1 <;> (try exact k1.elim) <;> (try exact k2.elim)
  · exact fin
  · exact fin

/-- No package-level variable is known. -/
def gv0 : Nat → Option (List AV) := fun _ => Option.none

/-! ### What is known, one function after the other -/
def Gam.none : Gam := fun _ => Option.none
def Gam.add (G : Gam) (f : FuncId) (c : CT) : Gam := fun g => if g = f then some c else G g

theorem gam_none (gv : Nat → Option (List AV)) : GamOK P gv Gam.none := ⟨fun f c h => by simp [Gam.none] at h, fun f c h => by simp [Gam.none] at h⟩

def entersB (P : Program) (f : FuncId) : Bool := match P.funcs[f]? with
  | some fn => fn.name != "runtime.NumGoroutine" && fn.body.isSome
  | none => false

theorem enters_of {f : FuncId} (h : entersB P f = true) : Enters P f := by
  intro args w
  unfold entersB at h
  split at h
  · rename_i fn hf
    simp only [Bool.and_eq_true] at h
    have h1 : fn.name ≠ "runtime.NumGoroutine" := by simpa using h.1
    have h2 : fn.body ≠ none := fun e => by have := h.2; rw [e] at this; cases this
    simp [callFunc, program, Sem.run, hf, h1, h2]
  · cases h

theorem gam_add {gv : Nat → Option (List AV)} (hG : GamOK P gv G) {f : FuncId} {c : CT} (he : entersB P f = true) (hc : c.OK P gv f) : GamOK P gv (G.add f c) := by
  refine ⟨fun g c' h => ?_, fun g c' h => ?_⟩
  · unfold Gam.add at h
    split at h
    · rename_i e; subst e; exact enters_of he
    · exact hG.enters g c' h
  · unfold Gam.add at h
    split at h
    · rename_i e; subst e; injection h with h; subst h; exact hc
    · exact hG.ok g c' h

end
end Go.Proofs.YtmjdgpiofhildaaDoor
