/- The small language's laws, for proofs over it. -/
import Derived.Test.YtmjdgpiofhildaaDoorAbs19
namespace Go.Proofs.YtmjdgpiofhildaaDoor
open Go.RowKit
section
variable {G : Gam}

theorem wpM_at : ∀ (a : MC) {Q : MPost} {env fr : List (Nat × AV)} {h : Heap}, wpM G a Q env fr h → ∃ x env' fr' h', Q x env' fr' h' ∧ ∀ Q' : MPost, Q' x env' fr' h' → wpM G a Q' env fr h
  | .skip, Q, env, fr, h, hq => ⟨_, _, _, _, hq, fun _ k => k⟩
  | .reg is, Q, env, fr, h, hq => by
    simp only [wpM] at hq ⊢
    split at hq
    · rename_i hr; exact ⟨_, _, _, _, hq, fun Q' k => k⟩
    · exact hq.elim
  | .rgd is, Q, env, fr, h, hq => by
    simp only [wpM] at hq ⊢
    split at hq
    · rename_i hr; exact ⟨_, _, _, _, hq, fun Q' k => k⟩
    · exact hq.elim
  | .seq a b, Q, env, fr, h, hq => by
    simp only [wpM] at hq ⊢
    obtain ⟨x, e1, f1, h1, k1, k2⟩ := wpM_at a hq
    cases x with
    | normal =>
      obtain ⟨y, e2, f2, h2, k3, k4⟩ := wpM_at b k1
      exact ⟨y, e2, f2, h2, k3, fun Q' k => k2 _ (k4 Q' k)⟩
    | exit i => exact ⟨.exit i, e1, f1, h1, k1, fun Q' k => k2 _ k⟩
    | ret => exact ⟨.ret, e1, f1, h1, k1, fun Q' k => k2 _ k⟩
  | .ite c a b, Q, env, fr, h, hq => by
    simp only [wpM] at hq ⊢
    split at hq
    · rename_i t ht
      cases t with
      | true =>
        simp only [if_true] at hq
        obtain ⟨x, e1, f1, h1, k1, k2⟩ := wpM_at a hq
        exact ⟨x, e1, f1, h1, k1, fun Q' k => by simpa [ht] using k2 Q' k⟩
      | false =>
        simp only [Bool.false_eq_true, if_false] at hq
        obtain ⟨x, e1, f1, h1, k1, k2⟩ := wpM_at b hq
        exact ⟨x, e1, f1, h1, k1, fun Q' k => by simpa [ht] using k2 Q' k⟩
    · exact hq.elim
  | .blk id a, Q, env, fr, h, hq => by
    simp only [wpM] at hq ⊢
    obtain ⟨x, e1, f1, h1, k1, k2⟩ := wpM_at a hq
    cases x with
    | normal => exact ⟨.normal, e1, f1, h1, k1, fun Q' k => k2 _ k⟩
    | exit i =>
      simp only [blkQ] at k1
      by_cases hi : i = id
      · rw [if_pos hi] at k1; exact ⟨.normal, e1, f1, h1, k1, fun Q' k => k2 _ (by simp only [blkQ]; rw [if_pos hi]; exact k)⟩
      · rw [if_neg hi] at k1; exact ⟨.exit i, e1, f1, h1, k1, fun Q' k => k2 _ (by simp only [blkQ]; rw [if_neg hi]; exact k)⟩
    | ret => exact ⟨.ret, e1, f1, h1, k1, fun Q' k => k2 _ k⟩
  | .loop dead a, Q, env, fr, h, hq => by
    simp only [wpM] at hq ⊢
    obtain ⟨N, hr⟩ := hq
    generalize h.length = m at hr ⊢
    have key : ∀ (N : Nat) (env fr : List (Nat × AV)) (h : Heap), roundsM (wpM G a) dead m Q N env fr h → ∃ x env' fr' h', Q x env' fr' h' ∧ ∀ Q' : MPost, Q' x env' fr' h' → roundsM (wpM G a) dead m Q' N env fr h := by
      intro N
      induction N with
      | zero => intro env fr h hr; exact hr.elim
      | succ N ih =>
        intro env fr h hr
        simp only [roundsM] at hr ⊢
        obtain ⟨x, e1, f1, h1, k1, k2⟩ := wpM_at a hr
        cases x with
        | normal =>
          obtain ⟨y, e2, f2, h2, k3, k4⟩ := ih _ _ _ k1
          exact ⟨y, e2, f2, h2, k3, fun Q' k => k2 _ (k4 Q' k)⟩
        | exit i => exact ⟨.exit i, e1, f1, h1, k1, fun Q' k => k2 _ k⟩
        | ret => exact ⟨.ret, e1, f1, h1, k1, fun Q' k => k2 _ k⟩
    obtain ⟨x, e1, f1, h1, k1, k2⟩ := key N env fr h hr
    exact ⟨x, e1, f1, h1, k1, fun Q' k => ⟨N, k2 Q' k⟩⟩
  | .exit id, Q, env, fr, h, hq => ⟨_, _, _, _, hq, fun _ k => k⟩
  | .ret, Q, env, fr, h, hq => ⟨_, _, _, _, hq, fun _ k => k⟩
  | .bad, Q, env, fr, h, hq => hq.elim

theorem wpM_mono {a : MC} {Q Q' : MPost} {env fr : List (Nat × AV)} {h : Heap} (hq : wpM G a Q env fr h) (hm : ∀ x env fr h, Q x env fr h → Q' x env fr h) : wpM G a Q' env fr h := by
  obtain ⟨x, e1, f1, h1, k1, k2⟩ := wpM_at a hq
  exact k2 Q' (hm _ _ _ _ k1)

/-- A loop, at its head. -/
def LoopM (G : Gam) (dead : List Nat) (a : MC) (n : Nat) (Q : MPost) (fr : List (Nat × AV)) (h : Heap) : Prop := ∃ N, roundsM (wpM G a) dead n Q N [] fr h

theorem rounds_env {T : MPost → List (Nat × AV) → List (Nat × AV) → Heap → Prop} {dead : List Nat} {n : Nat} {Q : MPost} {N : Nat} {env env' fr : List (Nat × AV)} {h : Heap} : roundsM T dead n Q N env fr h = roundsM T dead n Q N env' fr h := by
  cases N <;> rfl

theorem wpM_loop {dead : List Nat} {a : MC} {Q : MPost} {env fr : List (Nat × AV)} {h : Heap} : wpM G (.loop dead a) Q env fr h = LoopM G dead a h.length Q fr h := by
  simp only [wpM, LoopM]
  congr 1
  funext N
  exact rounds_env

theorem loop_step {dead : List Nat} {a : MC} {n : Nat} {Q : MPost} {fr : List (Nat × AV)} {h : Heap} (hq : wpM G a (seqQ (fun _ _ fr h => LoopM G dead a n Q fr h) Q) [] (junkAll dead fr) (trunc n (junkAll dead fr) h)) : LoopM G dead a n Q fr h := by
  obtain ⟨x, e1, f1, h1, k1, k2⟩ := wpM_at a hq
  cases x with
  | normal =>
    obtain ⟨N, hr⟩ := k1
    refine ⟨N + 1, ?_⟩
    simp only [roundsM]
    exact k2 _ (by rw [seqQ, rounds_env (env' := [])]; exact hr)
  | exit i => exact ⟨1, by simp only [roundsM]; exact k2 _ k1⟩
  | ret => exact ⟨1, by simp only [roundsM]; exact k2 _ k1⟩

theorem wpM_skip {Q : MPost} {env fr : List (Nat × AV)} {h : Heap} : wpM G .skip Q env fr h = Q .normal env fr h := rfl
theorem wpM_ret {Q : MPost} {env fr : List (Nat × AV)} {h : Heap} : wpM G .ret Q env fr h = Q .ret env fr h := rfl
theorem wpM_exit {id : Nat} {Q : MPost} {env fr : List (Nat × AV)} {h : Heap} : wpM G (.exit id) Q env fr h = Q (.exit id) env fr h := rfl
theorem wpM_seq {a b : MC} {Q : MPost} {env fr : List (Nat × AV)} {h : Heap} : wpM G (.seq a b) Q env fr h = wpM G a (seqQ (fun _ env fr h => wpM G b Q env fr h) Q) env fr h := rfl
theorem wpM_blk {id : Nat} {a : MC} {Q : MPost} {env fr : List (Nat × AV)} {h : Heap} : wpM G (.blk id a) Q env fr h = wpM G a (blkQ id Q) env fr h := rfl

/-- The state after a region. -/
def after (Q : MPost) : R → Prop
  | .ok env fr h => Q .normal env fr h
  | .bad => False
theorem wpM_reg {is : List MI} {Q : MPost} {env fr : List (Nat × AV)} {h : Heap} : wpM G (.reg is) Q env fr h = after Q (run G false is (.ok [] fr h)) := by
  simp only [wpM, after]; split <;> rename_i hr <;> rw [hr]
theorem wpM_rgd {is : List MI} {Q : MPost} {env fr : List (Nat × AV)} {h : Heap} : wpM G (.rgd is) Q env fr h = after Q (run G true is (.ok [] fr h)) := by
  simp only [wpM, after]; split <;> rename_i hr <;> rw [hr]
/-- A choice, once it is known what is chosen by. -/
def choose2 (Q1 Q2 : Prop) : Option AV → Prop
  | some (.bool t) => if t then Q1 else Q2
  | _ => False
theorem wpM_ite {c : At} {a b : MC} {Q : MPost} {env fr : List (Nat × AV)} {h : Heap} : wpM G (.ite c a b) Q env fr h = choose2 (wpM G a Q env fr h) (wpM G b Q env fr h) (getA (getT env fr) c) := by
  simp only [wpM, choose2]; rfl

end
end Go.Proofs.YtmjdgpiofhildaaDoor
