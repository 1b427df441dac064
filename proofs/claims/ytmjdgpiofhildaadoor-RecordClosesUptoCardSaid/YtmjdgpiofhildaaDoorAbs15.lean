/- Calls, and one operation of a region. -/
import Derived.Test.YtmjdgpiofhildaaDoorAbs14
namespace Go.Proofs.YtmjdgpiofhildaaDoor
open Go.RowKit

/-- The cells of I, in w. -/
structure Holds (I : Nat → Nat → Option Value) (w : World) : Prop where
  cell : ∀ b o u, I b o = some u → w.cell? ⟨b, o, none⟩ = some u
  one : ∀ b o u, I b o = some u → u.oneCell' = true

/-- J says more than I, and of the blocks of w the same. -/
structure Grown (w : World) (I J : Nat → Nat → Option Value) : Prop where
  up : ∀ b o u, I b o = some u → J b o = some u
  down : ∀ b o u, J b o = some u → b < w.heap.size → I b o = some u

/-- What a function that keeps to itself hands back. -/
def PureOK (P : Program) (gv : Nat → Option (List AV)) (f : FuncId) (F : List AV → Option AV) : Prop :=
  ∀ (I : Nat → Nat → Option Value) (w : World) (args : List AV) (r : AV) (vals : Array Value), Holds I w → (∀ g r, gv g = some r → Rel (Cx.pure I) (.fptr r 0) (.pointer (some ⟨g, 0, none⟩))) → RelL (Cx.pure I) args vals.toList → F args = some r →
    Calls P f vals w fun e w' => ∃ v J, e = .returned v ∧ Grown w I J ∧ Holds J w' ∧ Rel (Cx.pure J) r v ∧ Below w.heap.size w w'

/-- What a function that turns what it is handed hands back. -/
def GenOK (P : Program) (gv : Nat → Option (List AV)) (f : FuncId) (F : List AV → Heap → Option (AV × Heap)) : Prop :=
  ∀ (B : Base) (C : Cx) (h : Heap) (w : World) (args : List AV) (r : AV) (h' : Heap) (vals : Array Value), B.gv = gv → Inv B C h w → RelL C args vals.toList → F args h = some (r, h') →
    Calls P f vals w fun e w' => ∃ v D, e = .returned v ∧ C.Le D ∧ Inv B D h' w' ∧ Rel D r v ∧ Below B w w'

def CT.OK (P : Program) (gv : Nat → Option (List AV)) (f : FuncId) : CT → Prop
  | .pure F => PureOK P gv f F
  | .gen F => GenOK P gv f F

/-- A call of it enters it. -/
def Enters (P : Program) (f : FuncId) : Prop := ∀ args w, (callFunc f args).run P w = .ok (.enter f args) w

structure GamOK (P : Program) (gv : Nat → Option (List AV)) (G : Gam) : Prop where
  enters : ∀ f c, G f = some c → Enters P f
  ok : ∀ f c, G f = some c → c.OK P gv f

section
variable {P : Program} {B : Base} {C D : Cx} {h : Heap} {w w' : World} {G : Gam}

theorem Inv.holds (hi : Inv B C h w) : Holds C.im w := ⟨hi.im, hi.one⟩

mutual
theorem scalar_rel : ∀ {v : AV} {u : Value}, scalar v = true → Rel C v u → Rel D v u
  | .bool b, u, _, h => by rw [bool_inv h]; exact .bool b
  | .int k n, u, _, h => by rw [int_inv h]; exact .int k n
  | .str s, u, _, h => by rw [str_inv h]; exact .str s
  | .tup vs, u, hs, h => by
    cases h with
    | tup cs us hl h => exact .tup _ _ hl (fun i c v hc hv => scalar_relL (by simpa [scalar] using hs) (us := us.toList) ⟨by simpa using hl, fun i c v hc hv => h i c v hc (by simpa using hv)⟩ |>.2 i c v hc (by simpa using hv))
  | .agg _, _, hs, _ | .sl _, _, hs, _ | .tsl _, _, hs, _ | .nils, _, hs, _ | .own _ _ _, _, hs, _ | .ptr _ _, _, hs, _ | .fptr _ _, _, hs, _ | .eptr _ _ _ _, _, hs, _ | .gptr _ _, _, hs, _ | .nilp, _, hs, _
  | .map _, _, hs, _ | .nilm, _, hs, _ | .fn _ _, _, hs, _ | .nilf, _, hs, _ | .iface _ _, _, hs, _ | .nili, _, hs, _ | .junk, _, hs, _ => by simp [scalar] at hs
theorem scalar_relL : ∀ {vs : List AV} {us : List Value}, scalarL vs = true → RelL C vs us → RelL D vs us
  | [], us, _, h => by rw [h.inv_nil]; exact .nil
  | a :: as, us, hs, h => by
    obtain ⟨u, us', rfl, h1, h2⟩ := h.inv_cons
    simp only [scalarL, Bool.and_eq_true] at hs
    exact .cons (scalar_rel hs.1 h1) (scalar_relL hs.2 h2)
end

/-- A call, of whatever kind. -/
theorem call_sound (hG : GamOK P B.gv G) (hi : Inv B C h w) {f : FuncId} {args : List AV} {vals : Array Value} {r : AV} {h' : Heap} (hr : RelL C args vals.toList) (he : callAV G f args h = some (r, h')) :
    Calls P f vals w fun e w' => ∃ v D, e = .returned v ∧ C.Le D ∧ Inv B D h' w' ∧ Rel D r v ∧ Below B w w' := by
  unfold callAV at he
  split at he
  · rename_i F hf
    have hok : PureOK P B.gv f F := hG.ok f _ hf
    split at he
    · rename_i us hus
      split at he
      · rename_i r' hF
        have hfz : frzL h args = some (us, freezeAll h (ownsL args)) := by simp [frzL, hus]
        obtain ⟨D, d1, d2, d3, d4, d5⟩ := frzL_sound hi hfz hr
        have hc := hok D.im w us r' vals d2.holds d2.gl d3 hF
        split at he
        · rename_i hs
          simp only [Option.some.injEq, Prod.mk.injEq] at he; obtain ⟨rfl, rfl⟩ := he
          refine hc.mono fun e w' hk => ?_
          obtain ⟨v, J, k1, k2, k3, k4, k5⟩ := hk
          exact ⟨v, C, k1, .refl C, hi.grow k5, scalar_rel hs k4, below_of hi k5⟩
        · simp only [Option.some.injEq, Prod.mk.injEq] at he; obtain ⟨rfl, rfl⟩ := he
          refine hc.mono fun e w' hk => ?_
          obtain ⟨v, J, k1, k2, k3, k4, k5⟩ := hk
          have hle : D.Le { D with im := J } := ⟨k2.up, fun _ _ x => x, fun _ _ _ x => x⟩
          have hext : Ext w D { D with im := J } := ⟨hle, fun b o hb => by
            show J b o = D.im b o
            cases hd : D.im b o with
            | some u => exact k2.up _ _ _ hd
            | none =>
              cases hj : J b o with
              | none => rfl
              | some u => have := k2.down _ _ _ hj hb; rw [hd] at this; cases this⟩
          exact ⟨v, { D with im := J }, k1, d1.trans hle, d2.extend hext k5 k3.cell k3.one d2.fr d2.fv, k4.mono ⟨fun _ _ _ x => x, (fun _ _ x => by cases x), (fun _ _ _ x => by cases x)⟩, below_of hi k5⟩
      · cases he
    · cases he
  · rename_i F hf
    exact hG.ok f _ hf B C h w args r h' vals rfl hi hr he
  · cases he

/-! ### An operation of a region -/

def compCall : Op → Option (AO × List Operand)
  | .call { callee := .value (.func f), args, .. } => some (.call f, args.toList)
  | .call { callee := .value x, args, .. } => some (.callv, x :: args.toList)
  | _ => none

def compOp (P : Program) (own : Bool) (o : Oper) : Option (AO × List Operand) :=
  match compCall o.op with
  | some r => some r
  | none => match compEff P own o.type o.op with
    | some r => some r
    | none => compPure P o.op

/-- What comes of an operation: a value, nothing, or a call. -/
def Comes1 (P : Program) (R : Value → World → Prop) : Result Next → Prop
  | .ok (.value u) w' => R u w'
  | .ok .skip w' => R undef w'
  | .ok (.enter f args) w' => Calls P f args w' fun e w'' => ∃ v, e = .returned v ∧ R v w''
  | _ => False

theorem ofValue_func (f : FuncId) (args : Array Value) (caps : Array Value) : Deferred.ofValue (.func (.func f) #[] caps) args = (pure { target := .fn (.func f) caps, args := args } : Sem Deferred) := by
  simp [Deferred.ofValue]

theorem enter_sound (hG : GamOK P B.gv G) (hi : Inv B C h w) {f : FuncId} {args : List AV} {vals : Array Value} {r : AV} {h' : Heap} (hr : RelL C args vals.toList) (he : callAV G f args h = some (r, h')) :
    Comes1 P (fun u w' => ∃ D, C.Le D ∧ Inv B D h' w' ∧ Rel D r u ∧ Below B w w') ((callFunc f vals).run P w) := by
  have hen : Enters P f := by
    cases hg : G f with
    | none => simp [callAV, hg] at he
    | some c => exact hG.enters f c hg
  rw [hen vals w]
  exact (call_sound hG hi hr he).mono fun e w' ⟨v, D, k1, k2⟩ => ⟨v, k1, D, k2⟩

theorem op_sound (hG : GamOK P B.gv G) (hi : Inv B C h w) {own : Bool} {oper : Oper} {ao : AO} {xs : List Operand} (hc : compOp P own oper = some (ao, xs)) {vals : List AV} {v : AV} {h' : Heap} {ρ : Operand → Value}
    (hρ : ∀ u, ρ (.const u) = u) (hρf : ∀ f, ρ (.func f) = .func (.func f) #[] #[]) (hrel : RelL C vals (xs.map ρ)) (hev : evalAO G h ao vals = some (v, h')) :
    Comes1 P (fun u w' => ∃ D, C.Le D ∧ Inv B D h' w' ∧ Rel D v u ∧ Below B w w') ((execOp ρ oper).run P w) := by
  unfold compOp at hc
  split at hc
  · -- a call
    rename_i r hcall
    injection hc with hc; subst hc
    have ex : ∀ o, oper.op = o → execOp ρ oper = execOp ρ { oper with op := o } := fun o e => by rw [← e]
    unfold compCall at hcall
    split at hcall
    · rename_i f args _ hop
      simp only [Option.some.injEq, Prod.mk.injEq] at hcall; obtain ⟨rfl, rfl⟩ := hcall
      simp only [evalAO, AO.quiet, Bool.false_eq_true, if_false, evalEff] at hev
      have hrel' : RelL C vals (args.map ρ).toList := by simpa using hrel
      have := enter_sound hG hi hrel' hev
      rw [ex _ hop]
      simpa [execOp, resolve, hρf, ofValue_func, invoke] using this
    · rename_i x args _ hnf hop
      simp only [Option.some.injEq, Prod.mk.injEq] at hcall; obtain ⟨rfl, rfl⟩ := hcall
      simp only [evalAO, AO.quiet, Bool.false_eq_true, if_false] at hev
      cases vals with
      | nil => simp [evalEff] at hev
      | cons a as =>
        obtain ⟨u, us, e, r1, r2⟩ := hrel.inv_cons
        simp only [List.map_cons, List.cons.injEq] at e
        obtain ⟨rfl, rfl⟩ := e
        cases a <;> first | (simp [evalEff] at hev; done) | skip
        rename_i f caps
        simp only [evalEff] at hev
        generalize hy : ρ x = y at r1
        cases r1 with
        | fn _ _ cs hl hcs =>
          have hrel' : RelL C (as ++ caps) (args.map ρ ++ cs).toList := by
            rw [Array.toList_append]
            exact RelL.append (by simpa using r2) ⟨by simpa using hl, fun i c v hc hv => hcs i c v hc (by simpa using hv)⟩
          have := enter_sound hG hi hrel' hev
          rw [ex _ hop]
          simpa [execOp, resolve, hy, ofValue_func, invoke] using this
    · cases hcall
  · rename_i hnc
    split at hc
    · rename_i r hce
      injection hc with hc; subst hc
      have hq : ao.quiet = false := by
        unfold compEff at hce
        split at hce <;> (try split at hce) <;> (try split at hce) <;> (try split at hce) <;> (try split at hce) <;> (first | (cases hce; done) | (cases hce; rfl))
      simp only [evalAO, hq, Bool.false_eq_true, if_false] at hev
      obtain ⟨n, u, D, w', k1, k2, k3⟩ := eff_sound hi hce vals v h' ρ oper hρ rfl rfl hrel hev
      rw [k1]
      rcases k2 with rfl | ⟨rfl, rfl⟩
      · exact ⟨D, k3⟩
      · exact ⟨D, k3⟩
    · have hq : ao.quiet = true := by
        unfold compPure at hc
        split at hc <;> (try split at hc) <;> (try split at hc) <;> (try split at hc) <;> (try split at hc) <;> (try split at hc) <;> (try split at hc) <;> (try split at hc) <;> (first | (cases hc; done) | (cases hc; rfl))
      simp only [evalAO, hq, if_true] at hev
      split at hev
      · rename_i v' hv'
        simp only [Option.some.injEq, Prod.mk.injEq] at hev; obtain ⟨rfl, rfl⟩ := hev
        obtain ⟨u, k1, k2⟩ := pure_sound hi hc vals v' ρ oper rfl hrel hv'
        rw [k2 w (Below.refl _ _)]
        exact ⟨C, .refl C, hi, k1, Below.refl _ _⟩
      · cases hev

end
end Go.Proofs.YtmjdgpiofhildaaDoor
