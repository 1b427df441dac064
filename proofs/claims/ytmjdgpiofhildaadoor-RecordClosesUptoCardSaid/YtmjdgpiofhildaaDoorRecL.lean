/- The plain law of Check: what the program's and the reference's come to is the same. -/
import Derived.Test.YtmjdgpiofhildaaDoorRecJ
namespace Go.Proofs.YtmjdgpiofhildaaDoor
open Go.RowKit Go.IntWalk

theorem findP_any {α : Type} (p : α → Bool) (xs : List α) : (!ltB (findP p 0 xs) 0) = xs.any p := by
  have hn := findP_nonneg (p := p) xs 0
  cases ha : xs.any p with
  | true => simp [ltB_not.2 (hn.2 ha)]
  | false =>
    have hn' : ¬ 0 ≤ findP p 0 xs := fun k => by rw [hn.1 k] at ha; cases ha
    simp [ltB_iff.2 (Int.not_le.1 hn')]

/-- What is said of the file that is written. -/
def tailE (m : List (Bs × Bs)) (s : Done) (own : List (Bs × Bool)) : Int :=
  if touchedE s.wrote = 0 then (if (lookM s.wrote.path m).isSome || (lookM s.wrote.path own).getD false then 6 else 0) else touchedE s.wrote

theorem files_ref (m : List (Bs × Bs)) (s : Done) (before : Bs → Option Bs) (hb : ∀ p, before p = lookM p m) : ∀ (rest : List Touch) (k : Nat) (own : List (Bs × Bool)), s.reads.drop k = rest → k ≤ s.reads.length → (∀ p, (lookM p own).getD false = (s.reads.take k).any (fun u => u.path == p)) →
    refFiles before s k (rest ++ [s.wrote]) = if (readsE m own rest).1 = 0 then tailE m s (readsE m own rest).2 else (readsE m own rest).1
  | [], k, own, hd, hk, ho => by
    have hi := drop_nil hd
    have e : k = s.reads.length := by omega
    subst e
    simp only [List.nil_append, refFiles, readsE, if_true, tailE, touchedE, findP_any, eqB_self, Bool.true_and, hb, ho]
    cases c1 : pathOK s.wrote.path with
    | false => simp
    | true =>
      by_cases c2 : s.wrote.dig.length = 32
      · simp only [c2, if_true]
        rw [Bool.or_comm]
        cases h1 : lookM s.wrote.path m with
        | some d => simp
        | none => simp
      · simp [c2]
  | t :: rest, k, own, hd, hk, ho => by
    obtain ⟨hi, hx, hxd⟩ := drop_cons hd
    have hke : eqB k s.reads.length = false := eqB_not.2 (by omega)
    simp only [List.cons_append, refFiles, readsE, findP_any, hke, Bool.false_and, Bool.or_false, hb]
    rw [← ho]
    cases c1 : pathOK t.path with
    | false => simp [touchedE, c1]
    | true =>
      by_cases c2 : t.dig.length = 32
      · have c3 : touchedE t = 0 := by simp [touchedE, c1, c2]
        simp only [c2, if_true, c3]
        cases c4 : (lookM t.path own).getD false with
        | true => simp
        | false =>
          simp only [Bool.false_eq_true, if_false]
          cases c5 : (lookM t.path m).any (fun d => d != t.dig) with
          | true => simp
          | false =>
            simp only [Bool.false_eq_true, if_false]
            refine files_ref m s before hb rest (k + 1) (putM t.path true own) hxd (by omega) (fun p => ?_)
            rw [lookM_put, take_succ_of hx, List.any_append]
            by_cases hp : p = t.path
            · subst hp; simp
            · have hp' : (t.path == p) = false := by simp; exact fun e => hp e.symm
              simp [hp, ho, hp']
      · simp [touchedE, c1, c2]

theorem touchedL_append (p : Bs) (s : Done) : ∀ ys : List Done, touchedL p (ys ++ [s]) = match touchedL p ys with | some x => some x | none => touchedL p [s]
  | [] => rfl
  | d :: r => by
    simp only [List.cons_append, touchedL, touchedL_append p s r]
    cases touchIn p d.reads with
    | some x => rfl
    | none =>
      simp only []
      split
      · rfl
      · rfl

theorem touchIn_append (p : Bs) (zs : List Touch) : ∀ ys : List Touch, touchIn p (ys ++ zs) = match touchIn p ys with | some x => some x | none => touchIn p zs
  | [] => rfl
  | y :: ys => by
    simp only [List.cons_append, touchIn, touchIn_append p zs ys]
    split <;> rfl
theorem touchIn_none (p : Bs) : ∀ ys : List Touch, ys.any (fun u => u.path == p) = false → touchIn p ys = none
  | [], _ => rfl
  | y :: ys, h => by
    simp only [List.any_cons, Bool.or_eq_false_iff] at h
    simp only [touchIn, h.1, Bool.false_eq_true, if_false]
    exact touchIn_none p ys h.2

/-- Under a step without a fault each file that is read has the digest that is known. -/
theorem putReads_look (m0 : List (Bs × Bs)) : ∀ (ts ys : List Touch) (m : List (Bs × Bs)) (own : List (Bs × Bool)), (readsE m0 own ts).1 = 0 →
    (∀ q, lookM q m = match lookM q m0 with | some x => some x | none => touchIn q ys) →
    (∀ q, (lookM q own).getD false = ys.any (fun u => u.path == q)) →
    (∀ q, lookM q (putReads m ts) = match lookM q m0 with | some x => some x | none => touchIn q (ys ++ ts)) ∧ ∀ q, (lookM q (readsE m0 own ts).2).getD false = (ys ++ ts).any (fun u => u.path == q)
  | [], ys, m, own, _, h1, h2 => by simpa [putReads, readsE] using ⟨h1, h2⟩
  | t :: ts, ys, m, own, he, h1, h2 => by
    simp only [readsE] at he ⊢
    by_cases c1 : touchedE t = 0
    · simp only [c1, if_true] at he ⊢
      cases c2 : (lookM t.path own).getD false with
      | true => simp [c2] at he
      | false =>
        simp only [c2, Bool.false_eq_true, if_false] at he ⊢
        cases c3 : (lookM t.path m0).any (fun d => d != t.dig) with
        | true => simp [c3] at he
        | false =>
          simp only [c3, Bool.false_eq_true, if_false] at he ⊢
          have hn := touchIn_none t.path ys (by rw [← h2]; exact c2)
          have ih := putReads_look m0 ts (ys ++ [t]) (putM t.path t.dig m) (putM t.path true own) he (fun q => ?_) (fun q => ?_)
          · simpa [putReads] using ih
          · rw [lookM_put, touchIn_append]
            by_cases hq : q = t.path
            · subst hq
              simp only [if_true, hn, touchIn, BEq.rfl]
              cases h3 : lookM t.path m0 with
              | none => rfl
              | some d => simp [h3] at c3; rw [c3]
            · have hq' : (t.path == q) = false := by simp; exact fun e => hq e.symm
              simp only [hq, if_false, h1, touchIn, hq', Bool.false_eq_true]
              cases lookM q m0 with
              | none => cases touchIn q ys <;> rfl
              | some d => rfl
          · rw [lookM_put, List.any_append]
            by_cases hq : q = t.path
            · subst hq; simp
            · have hq' : (t.path == q) = false := by simp; exact fun e => hq e.symm
              simp [hq, h2, hq']
    · simp [c1] at he

theorem refFrom_eq (xs : List Done) : ∀ (rest : List Done) (i : Nat) (m : List (Bs × Bs)) (prev : Option Done), xs.drop i = rest → prev = (if i = 0 then none else xs[i - 1]?) → (∀ p, lookM p m = touchedL p (xs.take i)) →
    checkFrom m prev rest = refFrom xs i rest
  | [], i, m, prev, hd, hp, hm => rfl
  | s :: rest, i, m, prev, hd, hp, hm => by
    obtain ⟨hi, hx, hxd⟩ := drop_cons hd
    have hf : refFiles (fun p => touchedL p (xs.take i)) s 0 (s.reads ++ [s.wrote]) = filesE m s := by
      rw [files_ref m s _ (fun p => (hm p).symm) s.reads 0 [] rfl (by omega) (fun p => by simp [lookM])]
      rfl
    simp only [checkFrom, refFrom, stepE, hf, hp]
    cases c1 : rangeBad s with
    | true => simp
    | false =>
      simp only [Bool.false_eq_true, if_false]
      cases c2 : (if i = 0 then none else xs[i - 1]?).any (orderBad · s) with
      | true => simp
      | false =>
        simp only [Bool.false_eq_true, if_false]
        cases c3 : countBad s with
        | true => simp
        | false =>
          simp only [Bool.false_eq_true, if_false]
          by_cases c4 : filesE m s = 0
          · simp only [c4, if_true]
            refine refFrom_eq xs rest (i + 1) _ (some s) hxd (by simp [hx]) (fun p => ?_)
            -- what is known behind the step
            have h0 : (readsE m [] s.reads).1 = 0 := by
              by_cases h : (readsE m [] s.reads).1 = 0
              · exact h
              · simp [filesE, h] at c4
            obtain ⟨g1, g2⟩ := putReads_look m s.reads [] m [] h0 (fun q => by cases lookM q m <;> rfl) (fun q => by simp [lookM])
            simp only [filesE, h0, if_true] at c4
            have h1 : touchedE s.wrote = 0 := by
              by_cases h : touchedE s.wrote = 0
              · exact h
              · simp [h] at c4
            simp only [h1, if_true] at c4
            have h2 : (lookM s.wrote.path m).isSome = false ∧ (lookM s.wrote.path (readsE m [] s.reads).2).getD false = false := by
              cases ha : (lookM s.wrote.path m).isSome <;> cases hb : (lookM s.wrote.path (readsE m [] s.reads).2).getD false <;> simp [ha, hb] at c4 ⊢
            rw [take_succ_of hx, touchedL_append, ← hm, lookM_put, g1]
            simp only [List.nil_append] at g2 ⊢
            by_cases hq : p = s.wrote.path
            · subst hq
              have e1 : lookM s.wrote.path m = none := by simpa using h2.1
              have e2 := touchIn_none s.wrote.path s.reads (by rw [← g2]; exact h2.2)
              simp [e1, touchedL, e2]
            · have hq' : (s.wrote.path == p) = false := by simp; exact fun e => hq e.symm
              simp only [hq, if_false, touchedL, hq', Bool.false_eq_true]
              cases lookM p m with
              | some x => rfl
              | none => cases touchIn p s.reads <;> rfl
          · simp [c4]

theorem check_eq (xs : List Done) : checkE xs = refCheckE xs := by
  unfold checkE refCheckE
  split
  · rfl
  · exact refFrom_eq xs xs 0 [] none rfl rfl (fun p => rfl)

end Go.Proofs.YtmjdgpiofhildaaDoor
