/- The chain goes on (the reference's Affected, RecordAffects); more readings: records with a bound of their length, lists of strings. -/
import Derived.Test.YtmjdgpiofhildaaDoorRecRow
import Derived.Test.YtmjdgpiofhildaaDoorRecM
namespace Go.Proofs.YtmjdgpiofhildaaDoor
noncomputable def Gb1 : Gam := Ga48.add Fn.licitref17_Affected (.pure F_refAffected)
theorem gb1_ok (m : Int) : GamOK Tryd.prog (gv1 m) Gb1 := gam_add (ga48_ok m) (by kernel_rfl) (Pure.licitref17_Affected (ga48_ok m) (refAffected_ok _ rfl rfl))
noncomputable def Gb2 : Gam := Gb1.add Fn.licitlaw17_RecordAffects (.pure F_RecordAffects)
theorem gb2_ok (m : Int) : GamOK Tryd.prog (gv1 m) Gb2 := gam_add (gb1_ok m) (by kernel_rfl) (Pure.licitlaw17_RecordAffects (gb1_ok m) (RecordAffects_ok _ rfl rfl rfl rfl rfl rfl rfl))
open Go.RowKit Go.WideShapes
section
variable {H : Type} {enc : TypeId × Value → H} {w : World} {base : Nat} {spare : Nat → Bool} {held : Bool}
theorem of_record' {fuel : Nat} {cs : List Value} {x : DataW H × List MemPlace} (h : DataW.trod enc Tryd.prog w base spare held fuel 23 cs = some x) (hb : Rows.uptoBulk x.1 ≤ 1048576) :
    ∃ xs : List Done, cellsD x.1 = [.sl (doneRows xs)] ∧ okS xs = true ∧ xs.length ≤ 1048576 := by
  obtain ⟨xs, h1, h2⟩ := of_record h hb
  refine ⟨xs, h1, h2, ?_⟩
  rcases DataW.trod_slice u23 h with ⟨_, rfl⟩ | ⟨a, len, cap, elems, rest, n, _, _, rfl, _, _, _, hlen, hel, _, _⟩
  · simp only [cellsD, List.cons.injEq, AV.sl.injEq, and_true] at h1
    have h3 := congrArg List.length h1
    rw [doneRows_len] at h3
    simp only [List.length_nil] at h3; omega
  · simp only [cellsD, List.cons.injEq, AV.sl.injEq, and_true] at h1
    have := congrArg List.length h1
    rw [rowsD_map] at this
    simp at this
    have hs1 := bulks.slice_le (elems.map (·.1)) (rest.map (·.1))
    simp only [List.length_map] at hs1
    simp only at hb
    omega
theorem of_strs {fuel : Nat} {cs : List Value} {x : DataW H × List MemPlace} (h : DataW.trod enc Tryd.prog w base spare held fuel 33 cs = some x) :
    ∃ ps : List Bs, cellsD x.1 = [.sl (ps.map rStr.enc)] ∧ ps.length ≤ Rows.uptoBulk x.1 := by
  rcases DataW.trod_slice u33 h with ⟨_, rfl⟩ | ⟨a, len, cap, elems, rest, n, _, _, rfl, _, _, _, hlen, hel, _, _⟩
  · exact ⟨[], by simp [cellsD], by simp⟩
  · obtain ⟨ps, h1, h2, _⟩ := of_list (row := rStr.enc) (Q := fun _ _ => True) (fun _ _ _ _ _ => trivial) (fun fuel cs x h => by
      obtain ⟨s, hs⟩ := of_str h
      exact ⟨s, by simp [cellsD, hs], trivial⟩) elems (each_of hlen hel)
    have hs1 := bulks.slice_le (elems.map (·.1)) (rest.map (·.1))
    simp only [List.length_map] at hs1
    exact ⟨ps, by simp [cellsD, h1], by simp only; omega⟩
end
end Go.Proofs.YtmjdgpiofhildaaDoor
