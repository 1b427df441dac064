/- strings.Clone,strings.HasPrefix: calls of the same functions of stringslite. -/
import Derived.Test.YtaadifodgahnjaaGreatDoorZRmB
import Derived.Test.YtaadifodgahnjaaGreatDoorZRmD
namespace Go.Proofs.YtaadifodgahnjaaGreatDoor
open Go.RowKit Go.IntWalk
theorem CloneS_ok {G : Gam} (hC : G Fn.q18 = some (.pure F_CloneS)) : ∀ args r,F_CloneS args = some r → wpM G Mc.q64 (pureQ Rs.q64 r) [] (frInit Ks.q64 args) [] := by
 intro args r hF
 have hF' := hF
 unfold F_CloneS at hF'
 split at hF'
 ·rename_i s
  split at hF'
  ·injection hF' with e; subst e
   have cl : ∀ st h,opV G st h (.call Fn.q18) (some [.str s]) = some (.str s,h) := fun st h => op_call hC (us := [.str s]) rfl hF (.inl rfl)
   rw [wpM_go]
   simp [Mc.q64,frInit,Ks.q64,cl,pureQ,Rs.q64]
  ·cases hF'
 ·cases hF'
theorem HasPrefix_ok {G : Gam} (hC : G Fn.q15 = some (.pure F_HasPrefix)) : ∀ args r,F_HasPrefix args = some r → wpM G Mc.q41 (pureQ Rs.q41 r) [] (frInit Ks.q41 args) [] := by
 intro args r hF
 have hF' := hF
 unfold F_HasPrefix at hF'
 split at hF'
 ·rename_i s t
  injection hF' with e; subst e
  have cl : ∀ st h,opV G st h (.call Fn.q15) (some [.str s,.str t]) = some (.bool (t.isPrefixOf s),h) := fun st h => op_call hC (us := [.str s,.str t]) rfl hF (.inl rfl)
  rw [wpM_go]
  simp [Mc.q41,frInit,Ks.q41,cl,pureQ,Rs.q41]
 ·cases hF'
end Go.Proofs.YtaadifodgahnjaaGreatDoor
