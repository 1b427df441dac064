/- Manifests: the size of a file,read by the reference. Manifests: a line for a file,read by the program. Manifests: read by the reference. Manifests: read by the program. -/
import Derived.Test.YtopiadllkglamaaGreatDoorZPkC
import Derived.Test.YtopiadllkglamaaGreatDoorZRmB
import Derived.Test.YtopiadllkglamaaGreatDoorZRmI
import Derived.Sort.Walk0
namespace Go.Proofs.YtopiadllkglamaaGreatDoor
open Go.RowKit Go.IntWalk
end Go.Proofs.YtopiadllkglamaaGreatDoor
namespace Go.Proofs.YtopiadllkglamaaGreatDoor
open Go.RowKit Go.IntWalk
end Go.Proofs.YtopiadllkglamaaGreatDoor
namespace Go.Proofs.YtopiadllkglamaaGreatDoor
open Go.RowKit Go.IntWalk
end Go.Proofs.YtopiadllkglamaaGreatDoor
namespace Go.Proofs.YtopiadllkglamaaGreatDoor
open Go.RowKit Go.IntWalk
theorem rowsL_mem : ∀ {ls : List Bs} {l : List (List Bs)},rowsL ls = some l → l.length ≤ ls.length ∧ ∀ w ∈ l,∃ y ∈ ls,w = splitBy 32 y
 | [],l,h => by simp [rowsL] at h
 | [x],l,h => by
  simp only [rowsL] at h
  split at h
  ·injection h with h; subst h; exact ⟨by simp,by simp⟩
  ·cases h
 | x :: m :: ls,l,h => by
  simp only [rowsL] at h
  split at h
  ·cases h
  ·obtain ⟨q,h1,rfl⟩ := Option.map_eq_some_iff.1 h
   obtain ⟨h2,h3⟩ := rowsL_mem h1
   refine ⟨by simp only [List.length_cons] at h2 ⊢; omega,fun w hw => ?_⟩
   rcases List.mem_cons.1 hw with rfl | hw
   ·exact ⟨x,by simp,rfl⟩
   ·obtain ⟨y,hy,rfl⟩ := h3 w hw
    exact ⟨y,by simp [hy],rfl⟩
theorem rows_bound {s : Bs} {l : List (List Bs)} (hs : s.length ≤ 900000) (h : rowsE s = some l) : l.length ≤ 1000000 ∧ ∀ w ∈ l,w ≠ [] ∧ w.length ≤ 1000000 ∧ ∀ x ∈ w,x.length ≤ 900000 := by
 obtain ⟨h1,h2⟩ := rowsL_mem h
 have := splitBy_len 10 s
 refine ⟨by omega,fun w hw => ?_⟩
 obtain ⟨y,hy,rfl⟩ := h2 w hw
 have h3 := splitBy_mem 10 s y hy
 have h4 := splitBy_len 32 y
 exact ⟨splitBy_ne 32 y,by omega,fun x hx => by have := splitBy_mem 32 y x hx; omega⟩
structure MapsP (sd : Stand) (ml : List (Bs × Bs)) (mn : List (Bs × Nat)) : Prop where
 lp : (lookM wPaper ml).getD [] = sd.lp
 ls : (lookM wSource ml).getD [] = sd.ls
 np : (lookM wPaper mn).getD 0 = sd.np
 ns : (lookM wSource mn).getD 0 = sd.ns
section
variable {G : Gam} {ml : List (Bs × Bs)} {mn : List (Bs × Nat)}
end
end Go.Proofs.YtopiadllkglamaaGreatDoor
