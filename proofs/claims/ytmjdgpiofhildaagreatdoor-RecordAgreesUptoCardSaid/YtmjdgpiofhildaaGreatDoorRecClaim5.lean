/- 'licitlaw17.RecordAgrees' returns true for all records and trees, and leaves its arguments as they were: where they are together of bulk at most 1048576 (the second form); the two tables of unicode/utf8 hold what the program's text lays. -/
import Derived.Test.YtmjdgpiofhildaaGreatDoorRecRow
import Derived.Test.YtmjdgpiofhildaaGreatDoorCards
import Derived.Test.YtmjdgpiofhildaaGreatDoorTie
import Derived.WalkKit
import Derived.ProofKit
import Derived.OpenShut
import Derived.Deep.DeepHandedRow
import Derived.Carry
namespace Go.Proofs.YtmjdgpiofhildaaGreatDoor
namespace agrees
open Go.ChangeShapes Go.WideShapes Go.ChangeAt Go.RowKit

theorem own : ownKnob Tryz.prog.godebug = none := by kernel_rfl

theorem laidOut : laidOutB Tryz.prog = true := by kernel_rfl
theorem u4 : Tryz.prog.underlying 4 = some .bool := by kernel_rfl

theorem pure_at (m : Int) : PureOK Tryz.prog (gv1 m) 3 F_RecordAgrees := (ga56_ok m).ok Fn.licitlaw17_RecordAgrees _ rfl

set_option maxRecDepth 100000 in
theorem contract (H : Type) (enc : TypeId × Value → H) (W : World) (base : Nat) (args : Array Value) (ds gs : List (DataW H)) (before : List MemPlace)
    (hval : ∀ (j : Nat) t v, Tryz.f3.params[j]? = some t → args[j]? = some v → Value.okWide Tryz.prog W .any base t v)
    (hW : DataW.Whole enc Tryz.prog Tryz.f3.params.toList Rows.recordAgreesSpec.vars false W args.toList ds gs before) (hk : Rows.uptoSmall H (ds ++ gs) = true) (hS : W.ShapedOpen Tryz.prog) :
    Calls Tryz.prog 3 args W fun e W' => ∃ v, e = .returned v ∧ Rows.recordAgreesSpec.post enc Tryz.prog Tryz.f3 false true false false W args v W' := by
  have hW' := hW
  obtain ⟨p, q, hA0, hV, rfl, hfz, hnd⟩ := hW
  have hA : DataW.TrodAll enc Tryz.prog W 0 (fun _ => true) true Tryz.f3.params.toList args.toList ds p := hA0
  rw [Tryz.params3] at hA hval
  obtain ⟨v0, vs0, d0, ds0, p0, q0, hargs, rfl, rfl, h0, r0⟩ := trodAll_cons hA
  obtain ⟨v1, vs1, d1, ds1, p1, q1, rfl, rfl, rfl, h1, r1⟩ := trodAll_cons r0
  obtain ⟨rfl, rfl, rfl⟩ := trodAll_nil r1
  obtain rfl : args = #[v0, v1] := by cases args; simp_all
  obtain ⟨rfl, rfl⟩ := trodVars_none hV
  obtain ⟨m, hm⟩ := maxLen_holds hS
  obtain ⟨a0, len0, cap0, rfl⟩ := okWide_slice u23 (hval 0 23 v0 rfl rfl)
  obtain ⟨a1, len1, cap1, rfl⟩ := okWide_slice u25 (hval 1 25 v1 rfl rfl)
  have hbound := bulks.bound hk
  obtain ⟨fuel0, hf0⟩ := h0
  obtain ⟨fuel1, hf1⟩ := h1
  simp only [List.append_nil, Rows.uptoBulkAll] at hbound
  obtain ⟨xs, hx, hok⟩ := of_record hf0 (by simp only; omega)
  obtain ⟨b, hb, hok1⟩ := of_tree hf1 (by simp only; omega)
  have hrel := (trod_rel 8 23 fuel0 _ _ fl23 hf0).1.append (trod_rel 8 25 fuel1 _ _ fl25 hf1).1
  simp only at hx hb
  rw [hx, hb] at hrel
  have hc := call_row (pure_at m) hm (args := #[.slice a0 len0 cap0, .slice a1 len1 cap1]) (avs := [.sl (doneRows xs), .sl (touchRows b)]) hrel (F2_use (A := eSl rDone) (B := eSl rTouch) (R := eBool) (x := xs) (y := b) (r := true) (if_pos ⟨okAg_of hok, hok1⟩))
  refine hc.mono fun e W' ⟨he, hbel⟩ => ?_
  subst he
  have h0' : DataW.Trod enc Tryz.prog W 0 (fun _ => true) true 23 (.slice a0 len0 cap0) d0 p0 := ⟨fuel0, hf0⟩
  have h1' : DataW.Trod enc Tryz.prog W 0 (fun _ => true) true 25 (.slice a1 len1 cap1) d1 p1 := ⟨fuel1, hf1⟩
  exact ⟨_, rfl, _, _, _, [], _, [], hW', trodAll_mk1 (shut_bool u4 _), trodAll_cons_mk (Below.trod laidOut (by kernel_rfl) (of_decide_eq_true (by kernel_rfl)) h0' hbel (fun x hx => hW'.lt x (by simp [hx]))) (trodAll_cons_mk (Below.trod laidOut (by kernel_rfl) (of_decide_eq_true (by kernel_rfl)) h1' hbel (fun x hx => hW'.lt x (by simp [hx]))) trodAll_mk0), rfl, hbel.frame _, fun h => by cases h⟩

/-- A world for the witness: the settled one, the two tables holding what their initialisers lay. -/
def firstCells : Array Value := (Go.Pinned.utf8FirstZ.map fun n : Nat => Value.int .u8 (n : Int)).toArray
def rangeCells : Array Value := ([128, 191, 160, 191, 128, 159, 144, 191, 128, 143, 0, 0, 0, 0, 0, 0, 0, 0, 0, 0, 0, 0, 0, 0, 0, 0, 0, 0, 0, 0, 0, 0].map fun n => Value.int .u8 n).toArray
def putC (cs : Array Value) : Obj → Obj
  | .cells _ t frozen => .cells cs t frozen
  | o => o
noncomputable def laidWorld (os : Os) : World :=
  { World.holding Tryz.prog os ⟨#[], #[], []⟩ with heap := ((World.holding Tryz.prog os ⟨#[], #[], []⟩).heap.modify 2 (putC firstCells)).modify 3 (putC rangeCells) }
theorem laid_met (os : Os) : laidMet Tryz.prog Rows.recordAgreesUptoRow.laid ((laidWorld os).forCall (fun _ _ => 0) ⟨#[], #[.slice none 0 0, .slice none 0 0], []⟩).memory :=
  laidMet_of_run' 8 (by kernel_rfl) (by kernel_rfl)
theorem reads (os : Os) {H : Type} (enc : TypeId × Value → H) : ∃ places, DataW.whole enc Tryz.prog ((laidWorld os).forCall (fun _ _ => 0) ⟨#[], #[.slice none 0 0, .slice none 0 0], []⟩).memory Tryz.f3.params.toList Rows.recordAgreesSpec.vars false #[Value.slice none 0 0, Value.slice none 0 0].toList 8 = some ([.nil, .nil], [], places) :=
  ⟨[], by kernel_rfl⟩

set_option maxRecDepth 100000 in
theorem liftedUpto (os : Os) (started : os.Started) (H : Type) (enc : TypeId × Value → H) (F : Stop.Interp) :
    ReturnsInHanded {} Tryz.checked os 3 .any ((Rows.OpenSpec.upto Rows.recordAgreesSpec).preRow enc Tryz.prog Tryz.f3 Rows.recordAgreesUptoRow.domain false Rows.recordAgreesUptoRow.laid) (((Rows.OpenSpec.upto Rows.recordAgreesSpec).at F).post enc Tryz.prog Tryz.f3 false true false false) := by
  obtain ⟨places, hx⟩ := reads os enc
  refine returnsInHanded_of_row (C := Tryz.checked) (s := Rows.OpenSpec.upto Rows.recordAgreesSpec) own started (by kernel_rfl) Tryz.func3
    (witness_row_at (enc := enc) (C := Tryz.checked) false (laidWorld os) #[.slice none 0 0, .slice none 0 0] rfl (by kernel_rfl) (by kernel_rfl) (by kernel_rfl)
      (OpenSpec.preRow_of_cond 8 hx (by kernel_rfl) (fun k hk => by cases hk; kernel_rfl) (by kernel_rfl) (laid_met os))) ?_
  intro W base args ds gs before hval hW _ hcond _ _ hS _
  exact contract H enc W base args ds gs before hval hW (hcond _ rfl) hS

theorem saidUpto : Rows.RecordAgreesUptoSaid :=
  OpenClaim.holds_of_cond 3 Tryz.f3 rfl rfl rfl rfl rfl rfl rfl ⟨rfl, rfl, rfl, rfl, rfl⟩ rfl rfl rfl rfl rfl (by kernel_rfl) Tryz.func3 (by kernel_rfl)
    (of_decide_eq_true (by kernel_rfl)) (by unfold Func.isWrapper; first | (rw [if_pos (by decide +kernel)]; kernel_rfl) | (rw [if_neg (by decide +kernel)]; exact ⟨rfl, rfl⟩))
    (fun os started H enc _ F => by rw [OpenClaim.pre_eq_preRow]; exact liftedUpto os started H enc F)

set_option maxRecDepth 100000 in
/-- No parameter wants a stand-in; what the program looks at is said. -/
theorem plain (f : FuncId) (fn : Func) (hf : Tryz.pinned.checked.prog.funcNamed Tryz.f3.name = some f) (hfn : Tryz.pinned.checked.prog.funcs[f]? = some fn) :
    true = Tryz.pinned.checked.prog.looks [] ∧ ∀ (j : Nat) t, fn.params[j]? = some t → Tryz.pinned.checked.prog.wantsStandIn t = false := by
  obtain rfl : f = 3 := Option.some.inj ((show Tryz.prog.funcNamed Tryz.f3.name = some 3 by kernel_rfl).symm.trans hf) |>.symm
  obtain rfl : fn = Tryz.f3 := (Option.some.inj (Tryz.func3.symm.trans hfn)).symm
  refine ⟨by kernel_rfl, fun j t ht => ?_⟩
  rw [Tryz.params3] at ht
  have ht' : t = 23 ∨ t = 25 := by have := Array.mem_of_getElem? ht; simp at this; omega
  rcases ht' with rfl | rfl
  · exact (show Tryz.prog.wantsStandIn 23 = false by kernel_rfl)
  · exact (show Tryz.prog.wantsStandIn 25 = false by kernel_rfl)

end agrees
/-- The statement. -/
theorem recordAgrees_holds : Rows.RecordAgreesUptoCardSaid :=
  Claim7.holds_tied_plain_at .later [] _ _ _ _ agrees.saidUpto (fun _ h => by cases h) (by kernel_rfl) (fun _ h => by cases h) recordAgreesUpto_row_tie rfl ⟨rfl, rfl⟩ (by kernel_rfl) rfl agrees.plain (by kernel_rfl)
end Go.Proofs.YtmjdgpiofhildaaGreatDoor
