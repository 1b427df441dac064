/- 'licitlaw17.RecordNeeds' returns true for all records and paths, and leaves its arguments as they were: where they are together of bulk at most 1048576 (the second form); the two tables of unicode/utf8 hold what the program's text lays. -/
import Derived.Test.YtmjdgpiofhildaaDoorRecN
import Derived.Test.YtmjdgpiofhildaaDoorCards
import Derived.Test.YtmjdgpiofhildaaDoorTie
import Derived.WalkKit
import Derived.ProofKit
import Derived.OpenShut
import Derived.Deep.DeepHandedRow
import Derived.Carry
namespace Go.Proofs.YtmjdgpiofhildaaDoor
theorem fl9 : flatT Tryd.prog 8 9 = true := by kernel_rfl
namespace needs
open Go.ChangeShapes Go.WideShapes Go.ChangeAt Go.RowKit

theorem own : ownKnob Tryd.prog.godebug = none := by kernel_rfl

theorem laidOut : laidOutB Tryd.prog = true := by kernel_rfl
theorem u4 : Tryd.prog.underlying 4 = some .bool := by kernel_rfl

theorem pure_at (m : Int) : PureOK Tryd.prog (gv1 m) 4 F_RecordNeeds := (gb7_ok m).ok Fn.licitlaw17_RecordNeeds _ rfl

set_option maxRecDepth 100000 in
theorem contract (H : Type) (enc : TypeId × Value → H) (W : World) (base : Nat) (args : Array Value) (ds gs : List (DataW H)) (before : List MemPlace)
    (hval : ∀ (j : Nat) t v, Tryd.f4.params[j]? = some t → args[j]? = some v → Value.okWide Tryd.prog W .any base t v)
    (hW : DataW.Whole enc Tryd.prog Tryd.f4.params.toList Rows.recordNeedsSpec.vars false W args.toList ds gs before) (hk : Rows.uptoSmall H (ds ++ gs) = true) (hS : W.ShapedOpen Tryd.prog) :
    Calls Tryd.prog 4 args W fun e W' => ∃ v, e = .returned v ∧ Rows.recordNeedsSpec.post enc Tryd.prog Tryd.f4 false true false false W args v W' := by
  have hW' := hW
  obtain ⟨p, q, hA0, hV, rfl, hfz, hnd⟩ := hW
  have hA : DataW.TrodAll enc Tryd.prog W 0 (fun _ => true) true Tryd.f4.params.toList args.toList ds p := hA0
  rw [Tryd.params4] at hA hval
  obtain ⟨v0, vs0, d0, ds0, p0, q0, hargs, rfl, rfl, h0, r0⟩ := trodAll_cons hA
  obtain ⟨v1, vs1, d1, ds1, p1, q1, rfl, rfl, rfl, h1, r1⟩ := trodAll_cons r0
  obtain ⟨rfl, rfl, rfl⟩ := trodAll_nil r1
  obtain rfl : args = #[v0, v1] := by cases args; simp_all
  obtain ⟨rfl, rfl⟩ := trodVars_none hV
  obtain ⟨m, hm⟩ := maxLen_holds hS
  obtain ⟨a0, len0, cap0, rfl⟩ := okWide_slice u23 (hval 0 23 v0 rfl rfl)
  obtain ⟨s1, rfl⟩ := okWide_string u9 (hval 1 9 v1 rfl rfl)
  have hbound := bulks.bound hk
  obtain ⟨fuel0, hf0⟩ := h0
  obtain ⟨fuel1, hf1⟩ := h1
  simp only [List.append_nil, Rows.uptoBulkAll] at hbound
  obtain ⟨xs, hx, hok, hxl⟩ := of_record' hf0 (by simp only; omega)
  obtain ⟨b, hb⟩ := of_str hf1
  have hrel := (trod_rel 8 23 fuel0 _ _ fl23 hf0).1.append (trod_rel 8 9 fuel1 _ _ fl9 hf1).1
  simp only at hx hb
  rw [hx, hb] at hrel
  have hc := call_row (pure_at m) hm (args := #[.slice a0 len0 cap0, .string s1]) (avs := [.sl (doneRows xs), .str b]) hrel (F2_use (A := eSl rDone) (B := eStr) (R := eBool) (x := xs) (y := b) (r := true) (if_pos ⟨hok, hxl⟩))
  refine hc.mono fun e W' ⟨he, hbel⟩ => ?_
  subst he
  have h0' : DataW.Trod enc Tryd.prog W 0 (fun _ => true) true 23 (.slice a0 len0 cap0) d0 p0 := ⟨fuel0, hf0⟩
  have h1' : DataW.Trod enc Tryd.prog W 0 (fun _ => true) true 9 (.string s1) d1 p1 := ⟨fuel1, hf1⟩
  exact ⟨_, rfl, _, _, _, [], _, [], hW', trodAll_mk1 (shut_bool u4 _), trodAll_cons_mk (Below.trod laidOut (by kernel_rfl) (of_decide_eq_true (by kernel_rfl)) h0' hbel (fun x hx => hW'.lt x (by simp [hx]))) (trodAll_cons_mk (Below.trod laidOut (by kernel_rfl) (of_decide_eq_true (by kernel_rfl)) h1' hbel (fun x hx => hW'.lt x (by simp [hx]))) trodAll_mk0), rfl, hbel.frame _, fun h => by cases h⟩

/-- A world for the witness: the settled one, the two tables holding what their initialisers lay. -/
def firstCells : Array Value := (Go.Pinned.utf8FirstZ.map fun n : Nat => Value.int .u8 (n : Int)).toArray
def rangeCells : Array Value := ([128, 191, 160, 191, 128, 159, 144, 191, 128, 143, 0, 0, 0, 0, 0, 0, 0, 0, 0, 0, 0, 0, 0, 0, 0, 0, 0, 0, 0, 0, 0, 0].map fun n => Value.int .u8 n).toArray
def putC (cs : Array Value) : Obj → Obj
  | .cells _ t frozen => .cells cs t frozen
  | o => o
noncomputable def laidWorld (os : Os) : World :=
  { World.holding Tryd.prog os ⟨#[], #[], []⟩ with heap := ((World.holding Tryd.prog os ⟨#[], #[], []⟩).heap.modify 1 (putC firstCells)).modify 2 (putC rangeCells) }
theorem laid_met (os : Os) : laidMet Tryd.prog Rows.recordNeedsUptoRow.laid ((laidWorld os).forCall (fun _ _ => 0) ⟨#[], #[.slice none 0 0, .string .empty], []⟩).memory :=
  laidMet_of_run' 8 (by kernel_rfl) (by kernel_rfl)
theorem reads (os : Os) {H : Type} (enc : TypeId × Value → H) : ∃ places, DataW.whole enc Tryd.prog ((laidWorld os).forCall (fun _ _ => 0) ⟨#[], #[.slice none 0 0, .string .empty], []⟩).memory Tryd.f4.params.toList Rows.recordNeedsSpec.vars false #[Value.slice none 0 0, Value.string .empty].toList 8 = some ([.nil, .lit (.string [])], [], places) :=
  ⟨[], by kernel_rfl⟩

set_option maxRecDepth 100000 in
theorem liftedUpto (os : Os) (started : os.Started) (H : Type) (enc : TypeId × Value → H) (F : Stop.Interp) :
    ReturnsInHanded {} Tryd.checked os 4 .any ((Rows.OpenSpec.upto Rows.recordNeedsSpec).preRow enc Tryd.prog Tryd.f4 Rows.recordNeedsUptoRow.domain false Rows.recordNeedsUptoRow.laid) (((Rows.OpenSpec.upto Rows.recordNeedsSpec).at F).post enc Tryd.prog Tryd.f4 false true false false) := by
  obtain ⟨places, hx⟩ := reads os enc
  refine returnsInHanded_of_row (C := Tryd.checked) (s := Rows.OpenSpec.upto Rows.recordNeedsSpec) own started (by kernel_rfl) Tryd.func4
    (witness_row_at (enc := enc) (C := Tryd.checked) false (laidWorld os) #[.slice none 0 0, .string .empty] rfl (by kernel_rfl) (by kernel_rfl) (by kernel_rfl)
      (OpenSpec.preRow_of_cond 8 hx (by kernel_rfl) (fun k hk => by cases hk; kernel_rfl) (by kernel_rfl) (laid_met os))) ?_
  intro W base args ds gs before hval hW _ hcond _ _ hS _
  exact contract H enc W base args ds gs before hval hW (hcond _ rfl) hS

theorem saidUpto : Rows.RecordNeedsUptoSaid :=
  OpenClaim.holds_of_cond 4 Tryd.f4 rfl rfl rfl rfl rfl rfl rfl ⟨rfl, rfl, rfl, rfl, rfl⟩ rfl rfl rfl rfl rfl (by kernel_rfl) Tryd.func4 (by kernel_rfl)
    (of_decide_eq_true (by kernel_rfl)) (by unfold Func.isWrapper; first | (rw [if_pos (by decide +kernel)]; kernel_rfl) | (rw [if_neg (by decide +kernel)]; exact ⟨rfl, rfl⟩))
    (fun os started H enc _ F => by rw [OpenClaim.pre_eq_preRow]; exact liftedUpto os started H enc F)

set_option maxRecDepth 100000 in
/-- No parameter wants a stand-in; the program's own looks are off. -/
theorem plain (f : FuncId) (fn : Func) (hf : Tryd.pinned.checked.prog.funcNamed Tryd.f4.name = some f) (hfn : Tryd.pinned.checked.prog.funcs[f]? = some fn) :
    false = Tryd.pinned.checked.prog.looks [] ∧ ∀ (j : Nat) t, fn.params[j]? = some t → Tryd.pinned.checked.prog.wantsStandIn t = false := by
  obtain rfl : f = 4 := Option.some.inj ((show Tryd.prog.funcNamed Tryd.f4.name = some 4 by kernel_rfl).symm.trans hf) |>.symm
  obtain rfl : fn = Tryd.f4 := (Option.some.inj (Tryd.func4.symm.trans hfn)).symm
  refine ⟨by kernel_rfl, fun j t ht => ?_⟩
  rw [Tryd.params4] at ht
  have ht' : t = 23 ∨ t = 9 := by have := Array.mem_of_getElem? ht; simp at this; omega
  rcases ht' with rfl | rfl
  · exact (show Tryd.prog.wantsStandIn 23 = false by kernel_rfl)
  · exact (show Tryd.prog.wantsStandIn 9 = false by kernel_rfl)

end needs
/-- The statement. -/
theorem recordNeeds_holds : Rows.RecordNeedsUptoCardSaid :=
  Claim7.holds_tied_plain_at .later [] _ _ _ _ needs.saidUpto (fun _ h => by cases h) (by kernel_rfl) (fun _ h => by cases h) recordNeedsUpto_row_tie rfl ⟨rfl, rfl⟩ (by kernel_rfl) rfl needs.plain (by kernel_rfl)
end Go.Proofs.YtmjdgpiofhildaaDoor
