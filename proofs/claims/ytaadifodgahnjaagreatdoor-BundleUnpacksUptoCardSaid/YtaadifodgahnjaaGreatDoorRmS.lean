/- strings.Clone,strings.HasPrefix: calls of the same functions of stringslite. -/
import Derived.Test.YtaadifodgahnjaaGreatDoorRmB
import Derived.Test.YtaadifodgahnjaaGreatDoorRmD
namespace Go.Proofs.YtaadifodgahnjaaGreatDoor
open Go.RowKit Go.IntWalk
theorem CloneS_ok {G : Gam} (hC : G Fn.q22 = some (.pure F_CloneS)) : ∀ args r,F_CloneS args = some r → wpM G Mc.q77 (pureQ Rs.q77 r) [] (frInit Ks.q77 args) [] := by
 intro args r hF
 have hF' := hF
 unfold F_CloneS at hF'
 split at hF'
 ·rename_i s
  split at hF'
  ·injection hF' with e; subst e
   have cl : ∀ st h,opV G st h (.call Fn.q22) (some [.str s]) = some (.str s,h) := fun st h => op_call hC (us := [.str s]) rfl hF (.inl rfl)
   rw [wpM_go]
   simp [Mc.q77,frInit,Ks.q77,cl,pureQ,Rs.q77]
  ·cases hF'
 ·cases hF'
theorem HasPrefix_ok {G : Gam} (hC : G Fn.q18 = some (.pure F_HasPrefix)) : ∀ args r,F_HasPrefix args = some r → wpM G Mc.q50 (pureQ Rs.q50 r) [] (frInit Ks.q50 args) [] := by
 intro args r hF
 have hF' := hF
 unfold F_HasPrefix at hF'
 split at hF'
 ·rename_i s t
  injection hF' with e; subst e
  have cl : ∀ st h,opV G st h (.call Fn.q18) (some [.str s,.str t]) = some (.bool (t.isPrefixOf s),h) := fun st h => op_call hC (us := [.str s,.str t]) rfl hF (.inl rfl)
  rw [wpM_go]
  simp [Mc.q50,frInit,Ks.q50,cl,pureQ,Rs.q50]
 ·cases hF'
end Go.Proofs.YtaadifodgahnjaaGreatDoor
