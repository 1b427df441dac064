/- The example that every law checks first; the law RecordChecks. -/
import Derived.Test.YtmjdgpiofhildaaDoorRecL
import Derived.KernelRfl
namespace Go.Proofs.YtmjdgpiofhildaaDoor
open Go.RowKit Go.IntWalk

theorem ex_ok : okS (exampleD 98) = true := by kernel_rfl
theorem ex_okR : okR (exampleD 98) = true := by kernel_rfl
theorem ex_check : checkE (exampleD 98) = 0 := by kernel_rfl
theorem ex_writer : writerE (exampleD 98) [97, 47, 98] = 1 := by kernel_rfl
theorem ex_needed : marked 0 (neededE (exampleD 98) [97, 47, 98]).1 = [0, 1] := by kernel_rfl
theorem ex_src : srcAll (writtenM [] (exampleD 98)) (neededE (exampleD 98) [97, 47, 98]).1 (exampleD 98) = [[97, 47, 120]] := by kernel_rfl
theorem ex_snd : (neededE (exampleD 98) [97, 47, 98]).2 = true := by kernel_rfl
theorem ex_sources : sourcesE (exampleD 98) [97, 47, 98] = [[97, 47, 120]] := by
  unfold sourcesE
  rw [ex_snd, ex_src]
  simp only [if_true, sortS, List.mergeSort_singleton]
  kernel_rfl
theorem ex_affected : affectedE (exampleD 98) [[97, 47, 111]] = [1] := by kernel_rfl
theorem ex_div : divFrom 0 (exampleD 98) (exampleD 99) = 1 := by kernel_rfl
theorem ex_reads : okReads (exampleD 98) = true := by kernel_rfl
theorem ex_len : (exampleD 98).length = 2 ∧ (exampleD 99).length = 2 := ⟨rfl, rfl⟩

def F_awake : List AV → Option AV := F0 (.bool true)

theorem awake_ok (G : Gam) (hE : G Fn.licitlaw17_example = some (.pure F_example)) (hC : G Fn.record_Check = some (.pure F_Check)) (hW : G Fn.record_Writer = some (.pure F_Writer)) (hN : G Fn.record_Needed = some (.pure F_Needed)) (hI : G Fn.slices_Equal___int_int_ = some (.pure F_EqualI))
    (hS : G Fn.record_Sources = some (.pure F_Sources)) (hQ : G Fn.slices_Equal___string_string_ = some (.pure F_EqualS)) (hA : G Fn.record_Affected = some (.pure F_Affected)) (hD : G Fn.record_Diverge = some (.pure F_Diverge)) : ∀ args r, F_awake args = some r → wpM G Mc.licitlaw17_awake (pureQ Rs.licitlaw17_awake r) [] (frInit Ks.licitlaw17_awake args) [] := F0_ok (by
  rw [wpM_go]
  have cE : ∀ st h (c : UInt8), opV G st h (.call Fn.licitlaw17_example) (some [.str [c]]) = some (.sl (doneRows (exampleD c)), h) := fun st h c => op_call hE rfl (F1_use (A := eStr) (R := eSl rDone) (x := [c]) rfl) (.inr rfl)
  have cC : ∀ st h, opV G st h (.call Fn.record_Check) (some [.sl (doneRows (exampleD 98))]) = some (.int .i64 0, h) := fun st h => op_call hC rfl (F1_use (A := eSl rDone) (R := eInt) (x := exampleD 98) (r := 0) (by rw [if_pos ex_okR, ex_check])) (.inl rfl)
  have cW : ∀ st h, opV G st h (.call Fn.record_Writer) (some [.sl (doneRows (exampleD 98)), .str [97, 47, 98]]) = some (.int .i64 1, h) := fun st h => op_call hW rfl (F2_use (A := eSl rDone) (B := eStr) (R := eInt) (x := exampleD 98) (y := [97, 47, 98]) (r := 1) (by rw [if_pos ex_okR, ex_writer])) (.inl rfl)
  have cN : ∀ st h, opV G st h (.call Fn.record_Needed) (some [.sl (doneRows (exampleD 98)), .str [97, 47, 98]]) = some (.sl [[.int .i64 0], [.int .i64 1]], h) := fun st h => op_call hN rfl (F2_use (A := eSl rDone) (B := eStr) (R := eSl rInt) (x := exampleD 98) (y := [97, 47, 98]) (r := [0, 1]) (by rw [if_pos ex_okR, ex_needed])) (.inr rfl)
  have cI : ∀ st h, opV G st h (.call Fn.slices_Equal___int_int_) (some [.sl [[.int .i64 0], [.int .i64 1]], .tsl [[.int .i64 0], [.int .i64 1]]]) = some (.bool true, h) := fun st h => op_call hI (us := [.sl [[.int .i64 0], [.int .i64 1]], .sl [[.int .i64 0], [.int .i64 1]]]) rfl rfl (.inl rfl)
  have cS : ∀ st h, opV G st h (.call Fn.record_Sources) (some [.sl (doneRows (exampleD 98)), .str [97, 47, 98]]) = some (.sl [[.str [97, 47, 120]]], h) := fun st h => op_call hS rfl (F2_use (A := eSl rDone) (B := eStr) (R := eSl rStr) (x := exampleD 98) (y := [97, 47, 98]) (r := [[97, 47, 120]]) (by rw [if_pos ex_ok, ex_sources])) (.inr rfl)
  have cQ : ∀ st h, opV G st h (.call Fn.slices_Equal___string_string_) (some [.sl [[.str [97, 47, 120]]], .tsl [[.str [97, 47, 120]]]]) = some (.bool true, h) := fun st h => op_call hQ (us := [.sl [[.str [97, 47, 120]]], .sl [[.str [97, 47, 120]]]]) rfl rfl (.inl rfl)
  have cA : ∀ st h, opV G st h (.call Fn.record_Affected) (some [.sl (doneRows (exampleD 98)), .tsl [[.str [97, 47, 111]]]]) = some (.sl [[.int .i64 1]], h) := fun st h => op_call hA (us := [.sl (doneRows (exampleD 98)), .sl [[.str [97, 47, 111]]]]) rfl (F2_use (A := eSl rDone) (B := eSl rStr) (R := eSl rInt) (x := exampleD 98) (y := [[97, 47, 111]]) (r := [1]) (by rw [if_pos ⟨ex_okR, by decide⟩, ex_affected])) (.inr rfl)
  have cI2 : ∀ st h, opV G st h (.call Fn.slices_Equal___int_int_) (some [.sl [[.int .i64 1]], .tsl [[.int .i64 1]]]) = some (.bool true, h) := fun st h => op_call hI (us := [.sl [[.int .i64 1]], .sl [[.int .i64 1]]]) rfl rfl (.inl rfl)
  have cD : ∀ st h, opV G st h (.call Fn.record_Diverge) (some [.sl (doneRows (exampleD 98)), .sl (doneRows (exampleD 99))]) = some (.int .i64 1, h) := fun st h => op_call hD rfl (by simp only [F_Diverge, dec_doneRows]; rw [if_pos ⟨by rw [ex_len.1]; decide, by rw [ex_len.2]; decide, ex_reads⟩, ex_div]) (.inl rfl)
  simp [Mc.licitlaw17_awake, frInit, Ks.licitlaw17_awake, cE, cC, cW, cN, cI, cS, cQ, cA, cI2, cD, sizesOk, onesOk, Rs.licitlaw17_awake])

def F_RecordChecks : List AV → Option AV := F1 (eSl rDone) eBool fun r => if okS r then some true else none
theorem RecordChecks_ok (G : Gam) (hA : G Fn.licitlaw17_awake = some (.pure F_awake)) (hF : G Fn.licitref17_Few = some (.pure F_Few)) (hC : G Fn.record_Check = some (.pure F_Check)) (hR : G Fn.licitref17_Check = some (.pure F_refCheck)) : ∀ args r, F_RecordChecks args = some r → wpM G Mc.licitlaw17_RecordChecks (pureQ Rs.licitlaw17_RecordChecks r) [] (frInit Ks.licitlaw17_RecordChecks args) [] := F1_ok fun xs r h => by
  split at h
  · rename_i ho
    injection h with h; subst h
    have ho' := ho
    simp only [okS, Bool.and_eq_true, decide_eq_true_eq] at ho'
    rw [wpM_go, eSl_done]
    have cA : ∀ st h, opV G st h (.call Fn.licitlaw17_awake) (some []) = some (.bool true, h) := fun st h => op_call hA rfl rfl (.inl rfl)
    have cF : ∀ st h, opV G st h (.call Fn.licitref17_Few) (some [.sl (doneRows xs)]) = some (.bool (fewE xs), h) := fun st h => op_call hF rfl (F1_use (A := eSl rDone) (R := eBool) (x := xs) (if_pos ho'.1)) (.inl rfl)
    have cC : ∀ st h, opV G st h (.call Fn.record_Check) (some [.sl (doneRows xs)]) = some (.int .i64 (checkE xs), h) := fun st h => op_call hC rfl (F1_use (A := eSl rDone) (R := eInt) (x := xs) (if_pos ho'.1)) (.inl rfl)
    have cR : ∀ st h, opV G st h (.call Fn.licitref17_Check) (some [.sl (doneRows xs)]) = some (.int .i64 (checkE xs), h) := fun st h => op_call hR rfl (F1_use (A := eSl rDone) (R := eInt) (x := xs) (r := checkE xs) (by rw [if_pos ho'.1, check_eq])) (.inl rfl)
    cases hf : fewE xs <;> simp [Mc.licitlaw17_RecordChecks, frInit, Ks.licitlaw17_RecordChecks, cA, cF, cC, cR, hf, Rs.licitlaw17_RecordChecks]
  · cases h

end Go.Proofs.YtmjdgpiofhildaaDoor
