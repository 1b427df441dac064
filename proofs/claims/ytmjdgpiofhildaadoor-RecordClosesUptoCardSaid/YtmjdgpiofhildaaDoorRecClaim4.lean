/- 'licitlaw17.RecordCloses' returns true for all records and paths, and leaves its arguments as they were: where they are together of bulk at most 1048576 (the second form); the two tables of unicode/utf8 hold what the program's text lays. -/
import Derived.Test.YtmjdgpiofhildaaDoorRecN
import Derived.Test.YtmjdgpiofhildaaDoorCards
import Derived.Test.YtmjdgpiofhildaaDoorTie
import Derived.WalkKit
import Derived.ProofKit
import Derived.OpenShut
import Derived.Deep.DeepHandedRow
import Derived.Carry
namespace Go.Proofs.YtmjdgpiofhildaaDoor
open Go.RowKit Go.IntWalk

theorem set_get {mk : List Bool} {n j : Nat} (hn : n < mk.length) : (mk.set n true)[j]? = some true ↔ j = n ∨ mk[j]? = some true := by
  rw [List.getElem?_set]
  by_cases e : n = j
  · subst e; simp [hn]
  · have e' : ¬ j = n := fun g => e g.symm
    simp [e, e']

theorem rr_keep (xs : List Done) : ∀ (ts : List Touch) (mk : List Bool) (j : Nat), mk.length = xs.length → mk[j]? = some true → (rmarkReads xs mk ts)[j]? = some true
  | [], mk, j, hl, h => h
  | t :: ts, mk, j, hl, h => by
    unfold rmarkReads
    have hlt := wroteE_lt xs t.path
    by_cases c : 0 ≤ wroteE xs t.path
    · simp only [c, if_true]
      exact rr_keep xs ts _ j (by simpa using hl) ((set_get (by omega)).2 (.inr h))
    · simp only [c, if_false]
      exact rr_keep xs ts mk j hl h
theorem rr_hit (xs : List Done) : ∀ (ts : List Touch) (mk : List Bool), mk.length = xs.length → ∀ t ∈ ts, ∀ n : Nat, wroteE xs t.path = n → (rmarkReads xs mk ts)[n]? = some true
  | [], mk, hl, t, ht, n, hn => by simp at ht
  | u :: ts, mk, hl, t, ht, n, hn => by
    unfold rmarkReads
    have hlt := wroteE_lt xs u.path
    rcases List.mem_cons.1 ht with e | e
    · subst e
      have c : 0 ≤ wroteE xs t.path := by omega
      simp only [hn, Int.toNat_natCast, Int.natCast_nonneg, if_true]
      exact rr_keep xs ts _ n (by simpa using hl) ((set_get (by omega)).2 (.inl rfl))
    · exact rr_hit xs ts _ (by split <;> simpa using hl) t e n hn
theorem rr_from (xs : List Done) : ∀ (ts : List Touch) (mk : List Bool) (j : Nat), mk.length = xs.length → (rmarkReads xs mk ts)[j]? = some true → mk[j]? = some true ∨ ∃ t ∈ ts, wroteE xs t.path = j
  | [], mk, j, hl, h => .inl h
  | u :: ts, mk, j, hl, h => by
    unfold rmarkReads at h
    have hlt := wroteE_lt xs u.path
    rcases rr_from xs ts _ j (by split <;> simpa using hl) h with g | ⟨t, ht, g⟩
    · by_cases c : 0 ≤ wroteE xs u.path
      · simp only [c, if_true] at g
        rcases (set_get (by omega)).1 g with e | e
        · exact .inr ⟨u, by simp, by omega⟩
        · exact .inl e
      · simp only [c, if_false] at g; exact .inl g
    · exact .inr ⟨t, by simp [ht], g⟩

theorem rd_keep (xs : List Done) : ∀ (i : Nat) (mk : List Bool) (j : Nat), mk.length = xs.length → mk[j]? = some true → (rmarkDown xs i mk)[j]? = some true
  | 0, mk, j, hl, h => h
  | i + 1, mk, j, hl, h => by
    unfold rmarkDown
    by_cases c : mk[i]? = some true
    · simp only [c, if_true]
      cases hx : xs[i]? with
      | none => exact rd_keep xs i mk j hl h
      | some d => exact rd_keep xs i _ j (by rw [rmarkReads_len]; exact hl) (rr_keep xs d.reads mk j hl h)
    · simp only [c, if_false]; exact rd_keep xs i mk j hl h
theorem rd_above (xs : List Done) (ho : Once xs) : ∀ (i : Nat) (mk : List Bool) (j : Nat), mk.length = xs.length → i ≤ j + 1 → (rmarkDown xs i mk)[j]? = some true → mk[j]? = some true
  | 0, mk, j, hl, hi, h => h
  | i + 1, mk, j, hl, hi, h => by
    unfold rmarkDown at h
    by_cases c : mk[i]? = some true
    · simp only [c, if_true] at h
      cases hx : xs[i]? with
      | none => simp only [hx] at h; exact rd_above xs ho i mk j hl (by omega) h
      | some d =>
        simp only [hx] at h
        have g := rd_above xs ho i _ j (by rw [rmarkReads_len]; exact hl) (by omega) h
        rcases rr_from xs d.reads mk j hl g with e | ⟨t, ht, e⟩
        · exact e
        · have := read_before xs ho i d hx t ht j e; omega
    · simp only [c, if_false] at h; exact rd_above xs ho i mk j hl (by omega) h
theorem rd_closed (xs : List Done) (ho : Once xs) : ∀ (i : Nat) (mk : List Bool), mk.length = xs.length → ∀ k, k < i → (rmarkDown xs i mk)[k]? = some true → ∀ d, xs[k]? = some d → ∀ t ∈ d.reads, ∀ n : Nat, wroteE xs t.path = n → (rmarkDown xs i mk)[n]? = some true
  | 0, mk, hl, k, hk, h, d, hx, t, ht, n, hn => by omega
  | i + 1, mk, hl, k, hk, h, d, hx, t, ht, n, hn => by
    rcases Nat.lt_or_ge k i with g | g
    · unfold rmarkDown at h ⊢
      refine rd_closed xs ho i _ ?_ k g h d hx t ht n hn
      split
      · split
        · rw [rmarkReads_len]; exact hl
        · exact hl
      · exact hl
    · have : k = i := by omega
      subst this
      have hk2 := rd_above xs ho (k + 1) mk k hl (by omega) h
      unfold rmarkDown
      simp only [hk2, if_true, hx]
      exact rd_keep xs k _ n (by rw [rmarkReads_len]; exact hl) (rr_hit xs d.reads mk hl t ht n hn)
theorem rd_min (xs : List Done) : ∀ (i : Nat) (mk : List Bool) (k : Nat), mk.length = xs.length → (rmarkDown xs i mk)[k]? = some true → mk[k]? = some true ∨ ∃ (j : Nat) (d : Done) (t : Touch), (rmarkDown xs i mk)[j]? = some true ∧ xs[j]? = some d ∧ t ∈ d.reads ∧ wroteE xs t.path = k
  | 0, mk, k, hl, h => .inl h
  | i + 1, mk, k, hl, h => by
    unfold rmarkDown at h ⊢
    by_cases c : mk[i]? = some true
    · simp only [c, if_true] at h ⊢
      cases hx : xs[i]? with
      | none => simp only [hx] at h ⊢; exact rd_min xs i mk k hl h
      | some d =>
        simp only [hx] at h ⊢
        rcases rd_min xs i _ k (by rw [rmarkReads_len]; exact hl) h with g | g
        · rcases rr_from xs d.reads mk k hl g with e | ⟨t, ht, e⟩
          · exact .inl e
          · exact .inr ⟨i, d, t, rd_keep xs i _ i (by rw [rmarkReads_len]; exact hl) (rr_keep xs d.reads mk i hl c), hx, ht, e⟩
        · exact .inr g
    · simp only [c, if_false] at h ⊢; exact rd_min xs i mk k hl h

/-- The steps that the file of step a needs. -/
structure MarksOf (xs : List Done) (a : Nat) (M : List Bool) : Prop where
  len : M.length = xs.length
  top : M[a]? = some true
  le : ∀ k : Nat, M[k]? = some true → k ≤ a
  closed : ∀ (k : Nat) (d : Done) (t : Touch) (n : Nat), M[k]? = some true → xs[k]? = some d → t ∈ d.reads → wroteE xs t.path = n → M[n]? = some true
  min : ∀ k : Nat, M[k]? = some true → k = a ∨ ∃ (j : Nat) (d : Done) (t : Touch), M[j]? = some true ∧ xs[j]? = some d ∧ t ∈ d.reads ∧ wroteE xs t.path = k
theorem marks_of (xs : List Done) (ho : Once xs) (p : Bs) (a : Nat) (ha : wroteE xs p = a) : MarksOf xs a (marksE xs p) := by
  have hlt := wroteE_lt xs p
  have hm : marksE xs p = rmarkDown xs (a + 1) ((List.replicate xs.length false).set a true) := by
    unfold marksE; rw [if_neg (by omega), ha]; rfl
  have h0 : ∀ j : Nat, ((List.replicate xs.length false).set a true)[j]? = some true ↔ j = a := fun j => by
    rw [set_get (by simp; omega), List.getElem?_replicate]
    split <;> simp
  have hl : ((List.replicate xs.length false).set a true).length = xs.length := by simp
  have hle : ∀ k : Nat, (rmarkDown xs (a + 1) ((List.replicate xs.length false).set a true))[k]? = some true → k ≤ a := fun k hk => by
    rcases Nat.lt_or_ge a k with g | g
    · have := (h0 k).1 (rd_above xs ho (a + 1) _ k hl (by omega) hk); omega
    · exact g
  rw [hm]
  exact ⟨by rw [rmarkDown_len, hl], rd_keep xs _ _ a hl ((h0 a).2 rfl), hle, fun k d t n hk hx ht hn => rd_closed xs ho (a + 1) _ hl k (by have := hle k hk; omega) hk d hx t ht n hn,
    fun k hk => (rd_min xs (a + 1) _ k hl hk).imp (h0 k).1 id⟩

/-! ### What is affected -/
inductive Aff (xs : List Done) (q : Bs) : Nat → Prop
  | base {i : Nat} {d : Done} {t : Touch} : xs[i]? = some d → t ∈ d.reads → t.path = q → Aff xs q i
  | step {i j : Nat} {d e : Done} {t : Touch} : Aff xs q j → xs[j]? = some e → xs[i]? = some d → t ∈ d.reads → t.path = e.wrote.path → j < i → Aff xs q i
theorem aff_some {xs : List Done} {q : Bs} {i : Nat} (h : Aff xs q i) : ∃ d, xs[i]? = some d := by
  cases h with
  | base h _ _ => exact ⟨_, h⟩
  | step _ _ h _ _ _ => exact ⟨_, h⟩
theorem rHit_iff (chs : List Bs) (s : Done) : rHit chs s = true ↔ ∃ t ∈ s.reads, t.path ∈ chs := by
  simp only [rHit, List.any_eq_true, beq_iff_eq]
  constructor
  · rintro ⟨c, hc, u, hu, e⟩; exact ⟨u, hu, by rw [e]; exact hc⟩
  · rintro ⟨t, ht, hc⟩; exact ⟨t.path, hc, t, ht, rfl⟩
theorem aff_mem (xs : List Done) (q : Bs) : ∀ (rest : List Done) (i : Nat) (chs : List Bs), xs.drop i = rest → (∀ c, c ∈ chs ↔ c = q ∨ ∃ (j : Nat) (e : Done), j < i ∧ xs[j]? = some e ∧ Aff xs q j ∧ e.wrote.path = c) →
    ∀ n : Int, n ∈ rAffL chs i rest ↔ ∃ j : Nat, n = j ∧ i ≤ j ∧ Aff xs q j
  | [], i, chs, hd, hc, n => by
    have hi := drop_nil hd
    simp only [rAffL, List.not_mem_nil, false_iff]
    rintro ⟨j, _, hj, ha⟩
    obtain ⟨d, hx⟩ := aff_some ha
    rw [List.getElem?_eq_none (by omega)] at hx; cases hx
  | s :: rest, i, chs, hd, hc, n => by
    obtain ⟨hi, hx, hxd⟩ := drop_cons hd
    have hit : rHit chs s = true ↔ Aff xs q i := by
      rw [rHit_iff]
      constructor
      · rintro ⟨t, ht, hcc⟩
        rcases (hc t.path).1 hcc with e | ⟨j, e, hj, hxj, ha, hp⟩
        · exact .base hx ht e
        · exact .step ha hxj hx ht hp.symm hj
      · intro ha
        cases ha with
        | base h1 h2 h3 =>
          rw [hx] at h1; injection h1 with h1; subst h1
          exact ⟨_, h2, (hc _).2 (.inl h3)⟩
        | step h1 h2 h3 h4 h5 h6 =>
          rw [hx] at h3; injection h3 with h3; subst h3
          exact ⟨_, h4, (hc _).2 (.inr ⟨_, _, h6, h2, h1, h5.symm⟩)⟩
    unfold rAffL
    cases c : rHit chs s with
    | true =>
      have hai := hit.1 c
      simp only [if_true, List.mem_cons]
      rw [aff_mem xs q rest (i + 1) (chs ++ [s.wrote.path]) hxd (fun c => by
        rw [List.mem_append, hc c]
        constructor
        · rintro ((e | ⟨j, e, hj, g1, g2, g3⟩) | e)
          · exact .inl e
          · exact .inr ⟨j, e, by omega, g1, g2, g3⟩
          · exact .inr ⟨i, s, by omega, hx, hai, (by simpa using e : c = s.wrote.path).symm⟩
        · rintro (e | ⟨j, e, hj, g1, g2, g3⟩)
          · exact .inl (.inl e)
          · rcases Nat.lt_or_ge j i with g | g
            · exact .inl (.inr ⟨j, e, g, g1, g2, g3⟩)
            · have : j = i := by omega
              subst this
              rw [hx] at g1; injection g1 with g1; subst g1
              exact .inr (by simp [g3])) n]
      constructor
      · rintro (e | ⟨j, e, hj, ha⟩)
        · exact ⟨i, e, by omega, hai⟩
        · exact ⟨j, e, by omega, ha⟩
      · rintro ⟨j, e, hj, ha⟩
        by_cases g : j = i
        · subst g; exact .inl e
        · exact .inr ⟨j, e, by omega, ha⟩
    | false =>
      have hai : ¬ Aff xs q i := fun h => by rw [hit.2 h] at c; cases c
      simp only [Bool.false_eq_true, if_false]
      rw [aff_mem xs q rest (i + 1) chs hxd (fun c => by
        rw [hc c]
        constructor
        · rintro (e | ⟨j, e, hj, g1, g2, g3⟩)
          · exact .inl e
          · exact .inr ⟨j, e, by omega, g1, g2, g3⟩
        · rintro (e | ⟨j, e, hj, g1, g2, g3⟩)
          · exact .inl e
          · rcases Nat.lt_or_ge j i with g | g
            · exact .inr ⟨j, e, g, g1, g2, g3⟩
            · have : j = i := by omega
              subst this
              exact absurd g2 hai) n]
      constructor
      · rintro ⟨j, e, hj, ha⟩; exact ⟨j, e, by omega, ha⟩
      · rintro ⟨j, e, hj, ha⟩
        by_cases g : j = i
        · subst g; exact absurd ha hai
        · exact ⟨j, e, by omega, ha⟩

theorem wrote_self (xs : List Done) (ho : Once xs) (j : Nat) (e : Done) (hx : xs[j]? = some e) : wroteE xs e.wrote.path = j := by
  have hn : 0 ≤ wroteE xs e.wrote.path := (findP_nonneg (p := fun d : Done => d.wrote.path == e.wrote.path) xs 0).2 (List.any_eq_true.2 ⟨e, List.mem_of_getElem? hx, by simp⟩)
  obtain ⟨w, hw⟩ : ∃ w : Nat, wroteE xs e.wrote.path = w := ⟨(wroteE xs e.wrote.path).toNat, by omega⟩
  obtain ⟨_, s, h2, h3⟩ := findP_some xs 0 w hw
  simp only [Nat.sub_zero] at h2
  have h3 : s.wrote.path = e.wrote.path := by simpa using h3
  rcases Nat.lt_trichotomy w j with g | g | g
  · exact absurd h3 ((ho j e hx).1 w s g h2).1
  · rw [hw, g]
  · exact absurd h3.symm ((ho w s h2).1 j e g hx).1

/-- The sources of the file of step a: what its steps read and none wrote. -/
def SrcOf (xs : List Done) (M : List Bool) (q : Bs) : Prop := ∃ (k : Nat) (d : Done) (t : Touch), M[k]? = some true ∧ xs[k]? = some d ∧ t ∈ d.reads ∧ t.path = q
theorem aff_src {xs : List Done} (ho : Once xs) {a : Nat} {M : List Bool} (hM : MarksOf xs a M) {q : Bs} : ∀ {i : Nat}, Aff xs q i → M[i]? = some true → SrcOf xs M q := by
  intro i h
  induction h with
  | base h1 h2 h3 => exact fun hm => ⟨_, _, _, hm, h1, h2, h3⟩
  | step h1 h2 h3 h4 h5 h6 ih =>
    intro hm
    exact ih (hM.closed _ _ _ _ hm h3 h4 (by rw [h5]; exact wrote_self xs ho _ _ h2))
theorem src_aff {xs : List Done} (ho : Once xs) {a : Nat} {M : List Bool} (hM : MarksOf xs a M) {q : Bs} : ∀ (n k : Nat), a - k = n → M[k]? = some true → Aff xs q k → Aff xs q a := by
  intro n
  induction n using Nat.strongRecOn with
  | ind n ih =>
    intro k hn hk ha
    rcases hM.min k hk with e | ⟨j, d, t, h1, h2, h3, h4⟩
    · subst e; exact ha
    · have hlt := read_before xs ho j d h2 t h3 k h4
      have hja := hM.le j h1
      obtain ⟨_, s, g2, g3⟩ := findP_some xs 0 k h4
      simp only [Nat.sub_zero] at g2
      exact ih (a - j) (by omega) j rfl h1 (.step ha g2 h2 h3 (by simpa using g3 : s.wrote.path = t.path).symm hlt)
theorem affects_iff {xs : List Done} (ho : Once xs) {a : Nat} {M : List Bool} (hM : MarksOf xs a M) (q : Bs) : (a : Int) ∈ rAffL [q] 0 xs ↔ SrcOf xs M q := by
  rw [aff_mem xs q xs 0 [q] rfl (fun c => by simp)]
  constructor
  · rintro ⟨j, e, _, ha⟩
    have : j = a := by omega
    subst this
    exact aff_src ho hM ha hM.top
  · rintro ⟨k, d, t, h1, h2, h3, h4⟩
    exact ⟨a, rfl, by omega, src_aff ho hM _ k rfl h1 (.base h2 h3 h4)⟩

theorem srcAll_mem (W : List (Bs × Bool)) (x : Bs) : ∀ (ms : List Bool) (ds : List Done), x ∈ srcAll W ms ds ↔ ∃ (k : Nat) (d : Done), ms[k]? = some true ∧ ds[k]? = some d ∧ x ∈ srcReads W true d.reads
  | [], ds => by simp [srcAll]
  | b :: ms, [] => by simp [srcAll]
  | b :: ms, d :: ds => by
    rw [srcAll, List.mem_append, srcAll_mem W x ms ds]
    constructor
    · rintro (h | ⟨k, e, h1, h2, h3⟩)
      · cases b with
        | false => rw [srcReads_false] at h; simp at h
        | true => exact ⟨0, d, by simp, by simp, h⟩
      · exact ⟨k + 1, e, by simpa using h1, by simpa using h2, h3⟩
    · rintro ⟨k, e, h1, h2, h3⟩
      cases k with
      | zero =>
        simp only [List.getElem?_cons_zero, Option.some.injEq] at h1 h2
        subst h1 h2
        exact .inl h3
      | succ k => exact .inr ⟨k, e, by simpa using h1, by simpa using h2, h3⟩
theorem marked_mem (n : Int) : ∀ (ms : List Bool) (i : Nat), n ∈ marked i ms ↔ ∃ j : Nat, n = ((i + j : Nat) : Int) ∧ ms[j]? = some true
  | [], i => by simp [marked]
  | b :: r, i => by
    have ih := marked_mem n r (i + 1)
    unfold marked
    have hs : (∃ j : Nat, n = ((i + j : Nat) : Int) ∧ (b :: r)[j]? = some true) ↔ (n = i ∧ b = true) ∨ ∃ j : Nat, n = ((i + 1 + j : Nat) : Int) ∧ r[j]? = some true := by
      constructor
      · rintro ⟨j, h1, h2⟩
        cases j with
        | zero => exact .inl ⟨by omega, by simpa using h2⟩
        | succ j => exact .inr ⟨j, by omega, by simpa using h2⟩
      · rintro (⟨h1, h2⟩ | ⟨j, h1, h2⟩)
        · exact ⟨0, by omega, by simp [h2]⟩
        · exact ⟨j + 1, by omega, by simpa using h2⟩
    rw [hs]
    cases b with
    | true => simp only [if_true, List.mem_cons, ih, and_true]
    | false => simp [ih]
theorem marked_sorted : ∀ (ms : List Bool) (i : Nat), (marked i ms).Pairwise (· < ·)
  | [], i => by simp [marked]
  | b :: r, i => by
    have ih := marked_sorted r (i + 1)
    unfold marked
    cases b with
    | true =>
      simp only [if_true]
      refine List.pairwise_cons.2 ⟨fun x hx => ?_, ih⟩
      obtain ⟨j, h1, _⟩ := (marked_mem x r (i + 1)).1 hx
      omega
    | false => simpa using ih
theorem marked_last (ms : List Bool) (a : Nat) (h1 : ms[a]? = some true) (h2 : ∀ k : Nat, ms[k]? = some true → k ≤ a) : ∃ n : Nat, (marked 0 ms).length = n + 1 ∧ (marked 0 ms)[n]? = some (a : Int) := by
  have hm := (marked_mem a ms 0).2 ⟨a, by omega, h1⟩
  have hne : marked 0 ms ≠ [] := fun e => by rw [e] at hm; simp at hm
  have hl : (marked 0 ms).length ≠ 0 := fun e => hne (List.length_eq_zero_iff.1 e)
  refine ⟨(marked 0 ms).length - 1, by omega, ?_⟩
  obtain ⟨j, hj, he⟩ := List.getElem_of_mem hm
  have hlast : (marked 0 ms).length - 1 < (marked 0 ms).length := by omega
  rw [List.getElem?_eq_getElem hlast]
  have hmem := (marked_mem _ ms 0).1 (List.getElem_mem hlast)
  obtain ⟨k, hk1, hk2⟩ := hmem
  have hka := h2 k hk2
  rcases Nat.lt_or_ge j ((marked 0 ms).length - 1) with g | g
  · have := List.pairwise_iff_getElem.1 (marked_sorted ms 0) j _ hj hlast g
    omega
  · have : j = (marked 0 ms).length - 1 := by omega
    subst this
    rw [he]
theorem sorted_to (l : List Bs) (h : l.Pairwise (· < ·)) : ∀ n, n ≤ l.length → sortedTo l n = true
  | 0, _ => rfl
  | 1, _ => rfl
  | n + 2, hn => by
    have ih := sorted_to l h (n + 1) (by omega)
    have h1 : n + 1 < l.length := by omega
    have h2 : n < l.length := by omega
    have hlt := List.pairwise_iff_getElem.1 h n (n + 1) h2 h1 (by omega)
    have : ¬ l[n + 1] < l[n] := fun g => List.lt_irrefl _ (List.lt_trans hlt g)
    simp only [sortedTo, List.getElem?_eq_getElem h1, List.getElem?_eq_getElem h2, bytesLess_eq, ih]
    simp [this]
theorem idx_mem {α : Type} [DecidableEq α] (s : α) : ∀ (l : List α) (i : Nat), (!ltB (idxFrom s i l) 0) = decide (s ∈ l)
  | [], i => by simp [idxFrom, ltB]
  | y :: r, i => by
    unfold idxFrom
    by_cases e : s = y
    · rw [if_pos e]
      have : ltB (i : Int) 0 = false := ltB_not.2 (by omega)
      simp [this, e]
    · rw [if_neg e, idx_mem s r (i + 1)]
      simp [e]

end Go.Proofs.YtmjdgpiofhildaaDoor

namespace Go.Proofs.YtmjdgpiofhildaaDoor
open Go.RowKit Go.IntWalk

theorem op_hasS {G : Gam} (hC : G Fn.slices_Contains___string_string_ = some (.pure F_ContainsS)) {l : List Bs} (hl : l.length ≤ big) (x : Bs) (st : Bool) (h : Heap) : opV G st h (.call Fn.slices_Contains___string_string_) (some [.sl (l.map rStr.enc), .str x]) = some (.bool (decide (x ∈ l)), h) :=
  op_call hC rfl (by simp [F_ContainsS, decStrs_enc, hl, idx_mem]) (.inl rfl)
theorem op_hasI {G : Gam} (hC : G Fn.slices_Contains___int_int_ = some (.pure F_ContainsI)) {l : List Int} (hl : l.length ≤ big) (x : Int) (st : Bool) (h : Heap) : opV G st h (.call Fn.slices_Contains___int_int_) (some [.sl (l.map rInt.enc), .int .i64 x]) = some (.bool (decide (x ∈ l)), h) :=
  op_call hC rfl (by simp [F_ContainsI, decInts_enc, hl, idx_mem]) (.inl rfl)

/-- The frame of the first two loops. -/
abbrev cl1 (xs : List Done) (p : Bs) (a : Nat) (nd : List Int) (fr : List Bs) (i : Nat) (e8 e9 e112 e113 e114 : AV) : List (Nat × AV) :=
  [(0, .sl (doneRows xs)), (1, .str p), (4, .bool false), (5, .int .i64 a), (6, .sl (nd.map rInt.enc)), (7, .sl (fr.map rStr.enc)), (8, e8), (9, e9), (11, .junk), (12, .junk), (14, .junk), (16, .junk), (80, .sl (nd.map rInt.enc)), (81, .int .i64 nd.length), (82, .int .i64 i), (112, e112), (113, e113), (114, e114), (143, .junk), (144, .junk), (145, .junk), (150, .junk), (151, .junk), (152, .junk)]

theorem clo_L1 (G : Gam) (hWr : G Fn.record_Writer = some (.pure F_Writer)) (hCS : G Fn.slices_Contains___string_string_ = some (.pure F_ContainsS)) (hCI : G Fn.slices_Contains___int_int_ = some (.pure F_ContainsI))
    (xs : List Done) (hok : okR xs = true) (hz : refCheckE xs = 0) (p : Bs) (a : Nat) (nd : List Int) (fr : List Bs) (hn : nd.length ≤ big) (hf : fr.length ≤ big) (i κ : Nat) (d : Done) (hb : d.reads.length ≤ big)
    (hC : ∀ t ∈ d.reads, (wroteE xs t.path < 0 → t.path ∈ fr) ∧ (0 ≤ wroteE xs t.path → wroteE xs t.path ∈ nd)) {ks : List MK} {Q : MPost} :
    ∀ (rest : List Touch) (j : Nat), d.reads.drop j = rest → j ≤ d.reads.length →
    (∀ env, exM G .normal ks Q env (cl1 xs p a nd fr i (.int .i64 i) (.int .i64 κ) (.sl (touchRows d.reads)) (.int .i64 d.reads.length) (.int .i64 d.reads.length)) []) →
    headM G [11, 12] Mc.licitlaw17_RecordCloses_L1 0 (.blk 2 :: ks) Q (cl1 xs p a nd fr i (.int .i64 i) (.int .i64 κ) (.sl (touchRows d.reads)) (.int .i64 d.reads.length) (.int .i64 j)) []
  | [], j, hd, hj, hk => by
    have hi2 := drop_nil hd
    have e : j = d.reads.length := by omega
    refine head_go (Mc.licitlaw17_RecordCloses_L1.eq_1) ?_
    rw [trunc_len (n := 0) rfl]
    have := hk
    simp [e]
    simpa using this _
  | t :: rest, j, hd, hj, hk => by
    obtain ⟨hi2, hxt, hxd⟩ := drop_cons hd
    have hi' : ltB j d.reads.length = true := ltB_iff.2 (by omega)
    have hw := wrap1 (i := j) (by omega)
    have cW : ∀ st h, opV G st h (.call Fn.record_Writer) (some [.sl (doneRows xs), .str t.path]) = some (.int .i64 (wroteE xs t.path), h) := fun st h => op_call hWr rfl (F2_use (A := eSl rDone) (B := eStr) (R := eInt) (x := xs) (y := t.path) (r := wroteE xs t.path) (by rw [if_pos hok, writerE_eq]; simp [refWriterE, hz])) (.inl rfl)
    have cS := op_hasS hCS hf t.path
    have cI := op_hasI hCI hn (wroteE xs t.path)
    have ih := clo_L1 G hWr hCS hCI xs hok hz p a nd fr hn hf i κ d hb hC rest (j + 1) hxd (by omega) hk
    obtain ⟨c1, c2⟩ := hC t (List.mem_of_getElem? hxt)
    refine head_go (Mc.licitlaw17_RecordCloses_L1.eq_1) ?_
    rw [trunc_len (n := 0) rfl]
    by_cases c : wroteE xs t.path < 0
    · have e : ltB (wroteE xs t.path) 0 = true := ltB_iff.2 c
      have m := c1 c
      simp [hi', iadr_sl (touchRows_get hxt), cW, e, cS, m, hw]
      refine head_of ?_
      simpa [trunc, cl1] using ih
    · have e : ltB (wroteE xs t.path) 0 = false := ltB_not.2 (by omega)
      have m := c2 (by omega)
      simp [hi', iadr_sl (touchRows_get hxt), cW, e, cI, m, hw]
      refine head_of ?_
      simpa [trunc, cl1] using ih

theorem clo_L0 (G : Gam) (hWr : G Fn.record_Writer = some (.pure F_Writer)) (hCS : G Fn.slices_Contains___string_string_ = some (.pure F_ContainsS)) (hCI : G Fn.slices_Contains___int_int_ = some (.pure F_ContainsI))
    (xs : List Done) (hok : okR xs = true) (hz : refCheckE xs = 0) (p : Bs) (a : Nat) (nd : List Int) (fr : List Bs) (hn : nd.length < big) (hf : fr.length ≤ big)
    (hN : ∀ k ∈ nd, ∃ κ : Nat, k = κ ∧ κ < xs.length) (hI : nd.Pairwise (· < ·))
    (hC : ∀ (κ : Nat) (d : Done) (t : Touch), (κ : Int) ∈ nd → xs[κ]? = some d → t ∈ d.reads → (wroteE xs t.path < 0 → t.path ∈ fr) ∧ (0 ≤ wroteE xs t.path → wroteE xs t.path ∈ nd)) {ks : List MK} {Q : MPost} :
    ∀ (rest : List Int) (i : Nat), nd.drop i = rest → i ≤ nd.length →
    (∀ env, exM G .normal ks Q env (cl1 xs p a nd fr nd.length .junk .junk .junk .junk .junk) []) →
    headM G [8, 9, 11, 12, 112, 113, 114] Mc.licitlaw17_RecordCloses_L0 0 (.blk 0 :: ks) Q (cl1 xs p a nd fr i .junk .junk .junk .junk .junk) []
  | [], i, hd, hi, hk => by
    have hi2 := drop_nil hd
    have e : i = nd.length := by omega
    refine head_go (Mc.licitlaw17_RecordCloses_L0.eq_1) ?_
    rw [trunc_len (n := 0) rfl]
    have := hk
    simp [e]
    simpa using this _
  | k :: rest, i, hd, hi, hk => by
    obtain ⟨hi2, hx, hxd⟩ := drop_cons hd
    have hok' := hok
    simp only [okR, Bool.and_eq_true, decide_eq_true_eq] at hok'
    obtain ⟨κ, rfl, hκ⟩ := hN k (List.mem_of_getElem? hx)
    obtain ⟨d, hdx, _⟩ := drop_head (xs := xs) (i := κ) hκ
    have hrd : d.reads.length ≤ big := by
      have := List.all_eq_true.1 hok'.2 d (List.mem_of_getElem? hdx)
      simp only [okD, Bool.and_eq_true, decide_eq_true_eq] at this; exact this.1.1
    have hi' : ltB i nd.length = true := ltB_iff.2 (by omega)
    have hw := wrap1 (i := i) (by omega)
    have hia := fun h => iadr_sl (h := h) (k := .i64) (rows := nd.map rInt.enc) (i := i) (row := rInt.enc κ) (size := 1) (by simp [hx]) rfl
    have hid := fun h => iadr_sl (h := h) (k := .i64) (doneRows_get hdx) d.row_len
    have e1 : ltB (κ : Int) 0 = false := ltB_not.2 (by omega)
    have e2 : ltB (κ : Int) xs.length = true := ltB_iff.2 (by omega)
    have l1 := fun ks Q hk => clo_L1 G hWr hCS hCI xs hok hz p a nd fr (by omega) hf i κ d hrd (fun t ht => hC κ d t (List.mem_of_getElem? hx) hdx ht) (ks := ks) (Q := Q) d.reads 0 rfl (by omega) hk
    have ih := clo_L0 G hWr hCS hCI xs hok hz p a nd fr hn hf hN hI hC rest (i + 1) hxd (by omega) hk
    simp [Done.row] at hid hia l1
    refine head_go (Mc.licitlaw17_RecordCloses_L0.eq_1) ?_
    rw [trunc_len (n := 0) rfl]
    cases i with
    | zero =>
      have e3 : ltB 0 0 = false := rfl
      simp at hia hi' l1 ih
      simp [hi', hia, e1, e2, e3, hid]
      refine l1 _ _ (fun env => ?_)
      simp at hw
      simp [hw]
      refine head_of ?_
      rw [trunc_len (n := 0) rfl]
      simpa [cl1] using ih
    | succ i =>
      have hj : i < nd.length := by omega
      have hxp : nd[i]? = some (nd[i]'hj) := by simp
      have hlt : nd[i]'hj < κ := by
        have := List.pairwise_iff_getElem.1 hI i (i + 1) hj (by omega) (by omega)
        have e : nd[i + 1]'(by omega) = κ := by
          have := List.getElem?_eq_getElem (l := nd) (i := i + 1) (by omega)
          rw [hx] at this; injection this with this; exact this.symm
        rwa [e] at this
      generalize nd[i]'hj = k0 at hxp hlt
      have hip := fun h => iadr_sl (h := h) (k := .i64) (rows := nd.map rInt.enc) (i := i) (row := rInt.enc k0) (size := 1) (by simp [hxp]) rfl
      have e3 : ltB 0 ((i + 1 : Nat) : Int) = true := ltB_iff.2 (by omega)
      have e4 : ltB k0 κ = true := ltB_iff.2 hlt
      have ws : IntKind.i64.wrap (((i + 1 : Nat) : Int) - 1) = (i : Nat) := by unfold big at hn; rw [i64_in _ (by omega)]; omega
      simp at hip
      simp [-Int.natCast_add, hi', hia, e1, e2, e3, e4, ws, hip, hid]
      refine l1 _ _ (fun env => ?_)
      simp [-Int.natCast_add, hw]
      refine head_of ?_
      rw [trunc_len (n := 0) rfl]
      simpa [-Int.natCast_add, cl1] using ih

/-- The frame of the last two loops. -/
abbrev cl2 (xs : List Done) (p : Bs) (a : Nat) (nd : List Int) (fr : List Bs) (i : Nat) (e14 e150 e151 e152 : AV) : List (Nat × AV) :=
  [(0, .sl (doneRows xs)), (1, .str p), (4, .bool false), (5, .int .i64 a), (6, .sl (nd.map rInt.enc)), (7, .sl (fr.map rStr.enc)), (8, .junk), (9, .junk), (11, .junk), (12, .junk), (14, e14), (16, .junk), (80, .sl (nd.map rInt.enc)), (81, .int .i64 nd.length), (82, .int .i64 nd.length), (112, .junk), (113, .junk), (114, .junk), (143, .sl (doneRows xs)), (144, .int .i64 xs.length), (145, .int .i64 i), (150, e150), (151, e151), (152, e152)]

theorem clo_L3 (G : Gam) (hWr : G Fn.record_Writer = some (.pure F_Writer)) (hAf : G Fn.record_Affected = some (.pure F_Affected)) (hCS : G Fn.slices_Contains___string_string_ = some (.pure F_ContainsS)) (hCI : G Fn.slices_Contains___int_int_ = some (.pure F_ContainsI))
    (xs : List Done) (hok : okR xs = true) (hz : refCheckE xs = 0) (p : Bs) (a : Nat) (nd : List Int) (fr : List Bs) (hf : fr.length ≤ big) (i : Nat) (d : Done) (hb : d.reads.length ≤ big)
    (hA : ∀ t ∈ d.reads, wroteE xs t.path < 0 → ((a : Int) ∈ rAffL [t.path] 0 xs ↔ t.path ∈ fr)) {ks : List MK} {Q : MPost} :
    ∀ (rest : List Touch) (j : Nat), d.reads.drop j = rest → j ≤ d.reads.length →
    (∀ env, exM G .normal ks Q env (cl2 xs p a nd fr i (.ptr 0 0) (.sl (touchRows d.reads)) (.int .i64 d.reads.length) (.int .i64 d.reads.length)) [.cells d.row]) →
    headM G [16] Mc.licitlaw17_RecordCloses_L3 1 (.blk 6 :: ks) Q (cl2 xs p a nd fr i (.ptr 0 0) (.sl (touchRows d.reads)) (.int .i64 d.reads.length) (.int .i64 j)) [.cells d.row]
  | [], j, hd, hj, hk => by
    have hi2 := drop_nil hd
    have e : j = d.reads.length := by omega
    refine head_go (Mc.licitlaw17_RecordCloses_L3.eq_1) ?_
    rw [trunc_len (n := 1) rfl]
    have := hk
    simp [e]
    simpa using this _
  | t :: rest, j, hd, hj, hk => by
    obtain ⟨hi2, hxt, hxd⟩ := drop_cons hd
    have hok' := hok
    simp only [okR, Bool.and_eq_true, decide_eq_true_eq] at hok'
    have hi' : ltB j d.reads.length = true := ltB_iff.2 (by omega)
    have hw := wrap1 (i := j) (by omega)
    have hal := rAffL_len xs [t.path] 0
    have cW : ∀ st h, opV G st h (.call Fn.record_Writer) (some [.sl (doneRows xs), .str t.path]) = some (.int .i64 (wroteE xs t.path), h) := fun st h => op_call hWr rfl (F2_use (A := eSl rDone) (B := eStr) (R := eInt) (x := xs) (y := t.path) (r := wroteE xs t.path) (by rw [if_pos hok, writerE_eq]; simp [refWriterE, hz])) (.inl rfl)
    have cA : ∀ st h, opV G st h (.call Fn.record_Affected) (some [.sl (doneRows xs), .tsl [[.str t.path]]]) = some (.sl ((rAffL [t.path] 0 xs).map rInt.enc), h) := fun st h => op_call hAf (us := [.sl (doneRows xs), .sl [[.str t.path]]]) rfl (F2_use (A := eSl rDone) (B := eSl rStr) (R := eSl rInt) (x := xs) (y := [t.path]) (r := rAffL [t.path] 0 xs) (by rw [if_pos ⟨hok, by simp; unfold big; omega⟩, affectedE_eq]; simp [refAffectedE, hz])) (.inr rfl)
    have cS := op_hasS hCS hf t.path
    have cI := op_hasI hCI (l := rAffL [t.path] 0 xs) (by omega) (a : Int)
    have ih := clo_L3 G hWr hAf hCS hCI xs hok hz p a nd fr hf i d hb hA rest (j + 1) hxd (by omega) hk
    have hA := hA t (List.mem_of_getElem? hxt)
    refine head_go (Mc.licitlaw17_RecordCloses_L3.eq_1) ?_
    rw [trunc_len (n := 1) rfl]
    by_cases c : wroteE xs t.path < 0
    · have e : ltB (wroteE xs t.path) 0 = true := ltB_iff.2 c
      have m : decide ((a : Int) ∈ rAffL [t.path] 0 xs) = decide (t.path ∈ fr) := by simp [hA c]
      rw [m] at cI
      generalize decide (t.path ∈ fr) = bb at cS cI
      cases bb <;> (
        simp [hi', iadr_sl (touchRows_get hxt), cW, e, cS, cI, cA, hw, sizesOk, onesOk]
        refine head_of ?_
        simpa [trunc, cl1, cl2, Done.row] using ih)
    · have e : ltB (wroteE xs t.path) 0 = false := ltB_not.2 (by omega)
      simp [hi', iadr_sl (touchRows_get hxt), cW, e, hw]
      refine head_of ?_
      simpa [trunc, cl1, cl2, Done.row] using ih

theorem clo_L2 (G : Gam) (hWr : G Fn.record_Writer = some (.pure F_Writer)) (hAf : G Fn.record_Affected = some (.pure F_Affected)) (hCS : G Fn.slices_Contains___string_string_ = some (.pure F_ContainsS)) (hCI : G Fn.slices_Contains___int_int_ = some (.pure F_ContainsI))
    (xs : List Done) (hok : okR xs = true) (hz : refCheckE xs = 0) (p : Bs) (a : Nat) (nd : List Int) (fr : List Bs) (hf : fr.length ≤ big) (hxb : xs.length < big)
    (hA : ∀ d ∈ xs, ∀ t ∈ d.reads, wroteE xs t.path < 0 → ((a : Int) ∈ rAffL [t.path] 0 xs ↔ t.path ∈ fr)) {ks : List MK} {Q : MPost} :
    ∀ (rest : List Done) (i : Nat), xs.drop i = rest → i ≤ xs.length →
    (∀ env, exM G .normal ks Q env (cl2 xs p a nd fr xs.length .junk .junk .junk .junk) []) →
    headM G [14, 16, 150, 151, 152] Mc.licitlaw17_RecordCloses_L2 0 (.blk 4 :: ks) Q (cl2 xs p a nd fr i .junk .junk .junk .junk) []
  | [], i, hd, hi, hk => by
    have hi2 := drop_nil hd
    have e : i = xs.length := by omega
    refine head_go (Mc.licitlaw17_RecordCloses_L2.eq_1) ?_
    rw [trunc_len (n := 0) rfl]
    have := hk
    simp [e]
    simpa using this _
  | d :: rest, i, hd, hi, hk => by
    obtain ⟨hi2, hdx, hxd⟩ := drop_cons hd
    have hok' := hok
    simp only [okR, Bool.and_eq_true, decide_eq_true_eq] at hok'
    have hmem := List.mem_of_getElem? hdx
    have hrd : d.reads.length ≤ big := by
      have := List.all_eq_true.1 hok'.2 d hmem
      simp only [okD, Bool.and_eq_true, decide_eq_true_eq] at this; exact this.1.1
    have hi' : ltB i xs.length = true := ltB_iff.2 (by omega)
    have hw := wrap1 (i := i) (by omega)
    have hid := fun h => iadr_sl (h := h) (k := .i64) (doneRows_get hdx) d.row_len
    have l3 := fun ks Q hk => clo_L3 G hWr hAf hCS hCI xs hok hz p a nd fr hf i d hrd (hA d hmem) (ks := ks) (Q := Q) d.reads 0 rfl (by omega) hk
    have ih := clo_L2 G hWr hAf hCS hCI xs hok hz p a nd fr hf hxb hA rest (i + 1) hxd (by omega) hk
    simp [Done.row] at hid l3
    refine head_go (Mc.licitlaw17_RecordCloses_L2.eq_1) ?_
    rw [trunc_len (n := 0) rfl]
    simp [hi', hid]
    refine l3 _ _ (fun env => ?_)
    simp [hw]
    refine head_of ?_
    simpa [trunc, cl1, cl2, Done.row] using ih

theorem IsSorted_ok (G : Gam) (hG : G Fn.cmp_Less_string_ = some (.pure F_Less)) : ∀ args r, F_IsSorted args = some r → wpM G Mc.slices_IsSorted___string_string_ (pureQ Rs.slices_IsSorted___string_string_ r) [] (frInit Ks.slices_IsSorted___string_string_ args) [] := F1_ok fun xs r h => by
  split at h
  · rename_i hb
    injection h with h; subst h
    rw [wpM_go]
    have ih := IsSorted_loop G hG xs hb xs.length _ (Nat.le_refl _) rfl
    have ws : IntKind.i64.wrap ((xs.length : Int) - 1) = (xs.length : Int) - 1 := by unfold big at hb; rw [i64_in _ (by omega)]
    simpa [Mc.slices_IsSorted___string_string_, frInit, Ks.slices_IsSorted___string_string_, eSl, eBool, ws] using ih
  · cases h

def F_RecordCloses : List AV → Option AV := F2 (eSl rDone) eStr eBool fun a _ => if okS a = true ∧ a.length ≤ 1048576 then some true else none
theorem RecordCloses_ok (G : Gam) (hAw : G Fn.licitlaw17_awake = some (.pure F_awake)) (hF : G Fn.licitref17_Few = some (.pure F_Few)) (hCk : G Fn.record_Check = some (.pure F_Check)) (hWr : G Fn.record_Writer = some (.pure F_Writer)) (hNd : G Fn.record_Needed = some (.pure F_Needed))
    (hSr : G Fn.record_Sources = some (.pure F_Sources)) (hAf : G Fn.record_Affected = some (.pure F_Affected)) (hSo : G Fn.slices_IsSorted___string_string_ = some (.pure F_IsSorted)) (hCS : G Fn.slices_Contains___string_string_ = some (.pure F_ContainsS)) (hCI : G Fn.slices_Contains___int_int_ = some (.pure F_ContainsI)) :
    ∀ args r, F_RecordCloses args = some r → wpM G Mc.licitlaw17_RecordCloses (pureQ Rs.licitlaw17_RecordCloses r) [] (frInit Ks.licitlaw17_RecordCloses args) [] := F2_ok fun xs p r h => by
  split at h
  · rename_i ho
    injection h with h; subst h
    obtain ⟨oa, la⟩ := ho
    have oa' := oa
    simp only [okS, Bool.and_eq_true, decide_eq_true_eq] at oa'
    rw [wpM_go, eSl_done]
    have cAw : ∀ st h, opV G st h (.call Fn.licitlaw17_awake) (some []) = some (.bool true, h) := fun st h => op_call hAw rfl rfl (.inl rfl)
    have cF : ∀ st h, opV G st h (.call Fn.licitref17_Few) (some [.sl (doneRows xs)]) = some (.bool (fewE xs), h) := fun st h => op_call hF rfl (F1_use (A := eSl rDone) (R := eBool) (x := xs) (if_pos oa'.1)) (.inl rfl)
    have cC : ∀ st h, opV G st h (.call Fn.record_Check) (some [.sl (doneRows xs)]) = some (.int .i64 (refCheckE xs), h) := fun st h => op_call hCk rfl (F1_use (A := eSl rDone) (R := eInt) (x := xs) (r := refCheckE xs) (by rw [if_pos oa'.1, check_eq])) (.inl rfl)
    have cW : ∀ st h, opV G st h (.call Fn.record_Writer) (some [.sl (doneRows xs), .str p]) = some (.int .i64 (refWriterE xs p), h) := fun st h => op_call hWr rfl (F2_use (A := eSl rDone) (B := eStr) (R := eInt) (x := xs) (y := p) (r := refWriterE xs p) (by rw [if_pos oa'.1, writerE_eq])) (.inl rfl)
    have cN : ∀ st h, opV G st h (.call Fn.record_Needed) (some [.sl (doneRows xs), .str p]) = some (.sl ((refNeededE xs p).map rInt.enc), h) := fun st h => op_call hNd rfl (F2_use (A := eSl rDone) (B := eStr) (R := eSl rInt) (x := xs) (y := p) (r := refNeededE xs p) (by rw [if_pos oa'.1, refNeeded_eq])) (.inr rfl)
    have cS : ∀ st h, opV G st h (.call Fn.record_Sources) (some [.sl (doneRows xs), .str p]) = some (.sl ((sourcesE xs p).map rStr.enc), h) := fun st h => op_call hSr rfl (F2_use (A := eSl rDone) (B := eStr) (R := eSl rStr) (x := xs) (y := p) (r := sourcesE xs p) (by rw [if_pos oa])) (.inr rfl)
    cases hf : fewE xs with
    | false => simp [Mc.licitlaw17_RecordCloses, frInit, Ks.licitlaw17_RecordCloses, cAw, cF, hf, Rs.licitlaw17_RecordCloses]
    | true =>
      by_cases hz : refCheckE xs = 0
      · have hwe : refWriterE xs p = wroteE xs p := by simp [refWriterE, hz]
        by_cases hn : wroteE xs p < 0
        · have e : ltB (wroteE xs p) 0 = true := ltB_iff.2 hn
          have e1 : refNeededE xs p = [] := by
            rw [← refNeeded_eq, (needed_eq xs p).2 (fun g => by omega)]; rfl
          have e2 : sourcesE xs p = [] := by
            unfold sourcesE; rw [(needed_eq xs p).2 (fun g => by omega)]; rfl
          rw [hwe] at cW
          rw [e1] at cN
          rw [e2] at cS
          simp at cN cS
          simp [Mc.licitlaw17_RecordCloses, frInit, Ks.licitlaw17_RecordCloses, cAw, cF, hf, cC, hz, cW, cN, cS, e, eStr, Rs.licitlaw17_RecordCloses]
        · obtain ⟨a, ha⟩ : ∃ a : Nat, wroteE xs p = a := ⟨(wroteE xs p).toNat, by omega⟩
          have hon := once_of xs hz
          have hM := marks_of xs hon p a ha
          have hnl := refNeeded_len xs p
          have hsl := refSources_len xs p
          rw [← sources_eq] at hsl
          have hnd : refNeededE xs p = marked 0 (marksE xs p) := by simp [refNeededE, hz]
          have hso : (sourcesE xs p).Pairwise (· < ·) ∧ ∀ x, x ∈ sourcesE xs p ↔ x ∈ srcAll (writtenM [] xs) (marksE xs p) xs := by
            unfold sourcesE
            rw [(needed_eq xs p).1 hz (by omega)]
            simp only [if_true]
            exact compact_sort _
          have hsm : ∀ x, x ∈ sourcesE xs p ↔ SrcOf xs (marksE xs p) x ∧ wroteE xs x < 0 := fun x => by
            have hW : ∀ q, ((lookM q (writtenM [] xs)).getD false = false) ↔ wroteE xs q < 0 := fun q => by
              rw [written_look, wrote_any]; simp [lookM]
            rw [hso.2 x, srcAll_mem]
            constructor
            · rintro ⟨k, d, h1, h2, h3⟩
              obtain ⟨t, h4, h5, h6⟩ := (srcReads_mem _ x d.reads).1 h3
              exact ⟨⟨k, d, t, h1, h2, h4, h6⟩, by rw [← h6]; exact (hW _).1 h5⟩
            · rintro ⟨⟨k, d, t, h1, h2, h3, h4⟩, h5⟩
              exact ⟨k, d, h1, h2, (srcReads_mem _ x d.reads).2 ⟨t, h3, (hW _).2 (by rw [h4]; exact h5), h4⟩⟩
          have hmm : ∀ κ : Nat, (κ : Int) ∈ refNeededE xs p ↔ (marksE xs p)[κ]? = some true := fun κ => by
            rw [hnd, marked_mem]
            constructor
            · rintro ⟨j, h1, h2⟩
              have : κ = j := by omega
              rw [this]; exact h2
            · intro h; exact ⟨κ, by omega, h⟩
          obtain ⟨n, hn1, hn2⟩ := marked_last (marksE xs p) a hM.top hM.le
          rw [← hnd] at hn1 hn2
          obtain ⟨_, d, hx, hp⟩ := findP_some xs 0 a ha
          simp only [Nat.sub_zero] at hx
          have hp : d.wrote.path = p := by simpa using hp
          have hpair : (refNeededE xs p).Pairwise (· < ·) := by rw [hnd]; exact marked_sorted _ _
          have hN : ∀ k ∈ refNeededE xs p, ∃ κ : Nat, k = κ ∧ κ < xs.length := fun k hk => by
            rw [hnd] at hk
            obtain ⟨j, h1, h2⟩ := (marked_mem k _ 0).1 hk
            have := (List.getElem?_eq_some_iff.1 h2).1
            rw [hM.len] at this
            exact ⟨j, by omega, this⟩
          have hC : ∀ (κ : Nat) (d : Done) (t : Touch), (κ : Int) ∈ refNeededE xs p → xs[κ]? = some d → t ∈ d.reads → (wroteE xs t.path < 0 → t.path ∈ sourcesE xs p) ∧ (0 ≤ wroteE xs t.path → wroteE xs t.path ∈ refNeededE xs p) := fun κ d t h1 h2 h3 => by
            have hm := (hmm κ).1 h1
            refine ⟨fun h => (hsm _).2 ⟨⟨κ, d, t, hm, h2, h3, rfl⟩, h⟩, fun h => ?_⟩
            obtain ⟨w, hw⟩ : ∃ w : Nat, wroteE xs t.path = w := ⟨(wroteE xs t.path).toNat, by omega⟩
            rw [hw]
            exact (hmm w).2 (hM.closed κ d t w hm h2 h3 hw)
          have hA : ∀ d ∈ xs, ∀ t ∈ d.reads, wroteE xs t.path < 0 → ((a : Int) ∈ rAffL [t.path] 0 xs ↔ t.path ∈ sourcesE xs p) := fun d _ t _ hneg => by
            rw [affects_iff hon hM, hsm]
            exact ⟨fun h => ⟨h, hneg⟩, fun h => h.1⟩
          have cSo : ∀ st h, opV G st h (.call Fn.slices_IsSorted___string_string_) (some [.sl ((sourcesE xs p).map rStr.enc)]) = some (.bool true, h) := fun st h => op_call hSo rfl (F1_use (A := eSl rStr) (R := eBool) (x := sourcesE xs p) (r := true) (by rw [if_pos (by omega), sorted_to _ hso.1 _ (Nat.le_refl _)])) (.inl rfl)
          have hal : a < xs.length := (List.getElem?_eq_some_iff.1 hx).1
          have hid := fun h => iadr_sl (h := h) (k := .i64) (doneRows_get hx) d.row_len
          have e0 : ltB (a : Int) 0 = false := ltB_not.2 (by omega)
          have e1 : ltB (a : Int) xs.length = true := ltB_iff.2 (by omega)
          have hsb : (sourcesE xs p).length ≤ big := by omega
          have l0 := fun ks Q hk => clo_L0 G hWr hCS hCI xs oa'.1 hz p a (refNeededE xs p) (sourcesE xs p) (by unfold big; omega) hsb hN hpair hC (ks := ks) (Q := Q) (refNeededE xs p) 0 rfl (by omega) hk
          have l2 := fun ks Q hk => clo_L2 G hWr hAf hCS hCI xs oa'.1 hz p a (refNeededE xs p) (sourcesE xs p) hsb (by unfold big; omega) hA (ks := ks) (Q := Q) xs 0 rfl (by omega) hk
          rw [hwe, ha] at cW
          generalize refNeededE xs p = nd at cN l0 l2 hn1 hn2 hnl
          generalize sourcesE xs p = fr at cS l0 l2 cSo
          have hin := fun h => iadr_sl (h := h) (k := .i64) (rows := nd.map rInt.enc) (i := n) (row := rInt.enc a) (size := 1) (by simp [hn2]) rfl
          have e2 : eqB ((n : Int) + 1) 0 = false := eqB_not.2 (by omega)
          have ws : IntKind.i64.wrap (n : Int) = n := i64_in _ (by omega)
          simp [Done.row] at hid
          simp [hn1, cl1, cl2] at hin l0 l2
          simp [Mc.licitlaw17_RecordCloses, frInit, Ks.licitlaw17_RecordCloses, cAw, cF, hf, cC, hz, cW, cN, cS, e0, e1, hid, hp, hn1, e2, hin, ws, cSo, eStr]
          refine l0 _ _ (fun env => ?_)
          simp
          refine l2 _ _ (fun env => ?_)
          simp [Rs.licitlaw17_RecordCloses]
      · have e : eqB (refCheckE xs) 0 = false := eqB_not.2 hz
        simp [Mc.licitlaw17_RecordCloses, frInit, Ks.licitlaw17_RecordCloses, cAw, cF, hf, cC, e, Rs.licitlaw17_RecordCloses]
  · cases h

end Go.Proofs.YtmjdgpiofhildaaDoor

namespace Go.Proofs.YtmjdgpiofhildaaDoor
noncomputable def Gb8 : Gam := Gb7.add Fn.slices_IsSorted___string_string_ (.pure F_IsSorted)
theorem gb8_ok (m : Int) : GamOK Tryd.prog (gv1 m) Gb8 := gam_add (gb7_ok m) (by kernel_rfl) (Pure.slices_IsSorted___string_string_ (gb7_ok m) (IsSorted_ok _ rfl))
noncomputable def Gb9 : Gam := Gb8.add Fn.slices_Index___string_string_ (.pure F_IndexS)
theorem gb9_ok (m : Int) : GamOK Tryd.prog (gv1 m) Gb9 := gam_add (gb8_ok m) (by kernel_rfl) (Pure.slices_Index___string_string_ (gb8_ok m) (indexS_ok _))
noncomputable def Gb10 : Gam := Gb9.add Fn.slices_Contains___string_string_ (.pure F_ContainsS)
theorem gb10_ok (m : Int) : GamOK Tryd.prog (gv1 m) Gb10 := gam_add (gb9_ok m) (by kernel_rfl) (Pure.slices_Contains___string_string_ (gb9_ok m) (containsS_ok _ rfl))
noncomputable def Gb11 : Gam := Gb10.add Fn.slices_Index___int_int_ (.pure F_IndexI)
theorem gb11_ok (m : Int) : GamOK Tryd.prog (gv1 m) Gb11 := gam_add (gb10_ok m) (by kernel_rfl) (Pure.slices_Index___int_int_ (gb10_ok m) (indexI_ok _))
noncomputable def Gb12 : Gam := Gb11.add Fn.slices_Contains___int_int_ (.pure F_ContainsI)
theorem gb12_ok (m : Int) : GamOK Tryd.prog (gv1 m) Gb12 := gam_add (gb11_ok m) (by kernel_rfl) (Pure.slices_Contains___int_int_ (gb11_ok m) (containsI_ok _ rfl))
noncomputable def Gb13 : Gam := Gb12.add Fn.licitlaw17_RecordCloses (.pure F_RecordCloses)
theorem gb13_ok (m : Int) : GamOK Tryd.prog (gv1 m) Gb13 := gam_add (gb12_ok m) (by kernel_rfl) (Pure.licitlaw17_RecordCloses (gb12_ok m) (RecordCloses_ok _ rfl rfl rfl rfl rfl rfl rfl rfl rfl rfl))
theorem fl9 : flatT Tryd.prog 8 9 = true := by kernel_rfl
namespace closes
open Go.ChangeShapes Go.WideShapes Go.ChangeAt Go.RowKit

theorem own : ownKnob Tryd.prog.godebug = none := by kernel_rfl

theorem laidOut : laidOutB Tryd.prog = true := by kernel_rfl
theorem u4 : Tryd.prog.underlying 4 = some .bool := by kernel_rfl

theorem pure_at (m : Int) : PureOK Tryd.prog (gv1 m) 6 F_RecordCloses := (gb13_ok m).ok Fn.licitlaw17_RecordCloses _ rfl

set_option maxRecDepth 100000 in
theorem contract (H : Type) (enc : TypeId × Value → H) (W : World) (base : Nat) (args : Array Value) (ds gs : List (DataW H)) (before : List MemPlace)
    (hval : ∀ (j : Nat) t v, Tryd.f6.params[j]? = some t → args[j]? = some v → Value.okWide Tryd.prog W .any base t v)
    (hW : DataW.Whole enc Tryd.prog Tryd.f6.params.toList Rows.recordClosesSpec.vars false W args.toList ds gs before) (hk : Rows.uptoSmall H (ds ++ gs) = true) (hS : W.ShapedOpen Tryd.prog) :
    Calls Tryd.prog 6 args W fun e W' => ∃ v, e = .returned v ∧ Rows.recordClosesSpec.post enc Tryd.prog Tryd.f6 false true false false W args v W' := by
  have hW' := hW
  obtain ⟨p, q, hA0, hV, rfl, hfz, hnd⟩ := hW
  have hA : DataW.TrodAll enc Tryd.prog W 0 (fun _ => true) true Tryd.f6.params.toList args.toList ds p := hA0
  rw [Tryd.params6] at hA hval
  obtain ⟨v0, vs0, d0, ds0, p0, q0, hargs, rfl, rfl, h0, r0⟩ := trodAll_cons hA
  obtain ⟨v1, vs1, d1, ds1, p1, q1, rfl, rfl, rfl, h1, r1⟩ := trodAll_cons r0
  obtain ⟨rfl, rfl, rfl⟩ := trodAll_nil r1
  obtain rfl : args = #[v0, v1] := by cases args; simp_all
  obtain ⟨rfl, rfl⟩ := trodVars_none hV
  obtain ⟨m, hm⟩ := maxLen_holds hS
  obtain ⟨a0, len0, cap0, rfl⟩ := okWide_slice u23 (hval 0 23 v0 rfl rfl)
  obtain ⟨s1, rfl⟩ := okWide_string u9 (hval 1 9 v1 rfl rfl)
  have hbound := bulks.bound hk
  obtain ⟨fuel0, hf0⟩ := h0
  obtain ⟨fuel1, hf1⟩ := h1
  simp only [List.append_nil, Rows.uptoBulkAll] at hbound
  obtain ⟨xs, hx, hok, hxl⟩ := of_record' hf0 (by simp only; omega)
  obtain ⟨b, hb⟩ := of_str hf1
  have hrel := (trod_rel 8 23 fuel0 _ _ fl23 hf0).1.append (trod_rel 8 9 fuel1 _ _ fl9 hf1).1
  simp only at hx hb
  rw [hx, hb] at hrel
  have hc := call_row (pure_at m) hm (args := #[.slice a0 len0 cap0, .string s1]) (avs := [.sl (doneRows xs), .str b]) hrel (F2_use (A := eSl rDone) (B := eStr) (R := eBool) (x := xs) (y := b) (r := true) (if_pos ⟨hok, hxl⟩))
  refine hc.mono fun e W' ⟨he, hbel⟩ => ?_
  subst he
  have h0' : DataW.Trod enc Tryd.prog W 0 (fun _ => true) true 23 (.slice a0 len0 cap0) d0 p0 := ⟨fuel0, hf0⟩
  have h1' : DataW.Trod enc Tryd.prog W 0 (fun _ => true) true 9 (.string s1) d1 p1 := ⟨fuel1, hf1⟩
  exact ⟨_, rfl, _, _, _, [], _, [], hW', trodAll_mk1 (shut_bool u4 _), trodAll_cons_mk (Below.trod laidOut (by kernel_rfl) (of_decide_eq_true (by kernel_rfl)) h0' hbel (fun x hx => hW'.lt x (by simp [hx]))) (trodAll_cons_mk (Below.trod laidOut (by kernel_rfl) (of_decide_eq_true (by kernel_rfl)) h1' hbel (fun x hx => hW'.lt x (by simp [hx]))) trodAll_mk0), rfl, hbel.frame _, fun h => by cases h⟩

/-- A world for the witness: the settled one, the two tables holding what their initialisers lay. -/
def firstCells : Array Value := (Go.Pinned.utf8FirstZ.map fun n : Nat => Value.int .u8 (n : Int)).toArray
def rangeCells : Array Value := ([128, 191, 160, 191, 128, 159, 144, 191, 128, 143, 0, 0, 0, 0, 0, 0, 0, 0, 0, 0, 0, 0, 0, 0, 0, 0, 0, 0, 0, 0, 0, 0].map fun n => Value.int .u8 n).toArray
def putC (cs : Array Value) : Obj → Obj
  | .cells _ t frozen => .cells cs t frozen
  | o => o
noncomputable def laidWorld (os : Os) : World :=
  { World.holding Tryd.prog os ⟨#[], #[], []⟩ with heap := ((World.holding Tryd.prog os ⟨#[], #[], []⟩).heap.modify 1 (putC firstCells)).modify 2 (putC rangeCells) }
theorem laid_met (os : Os) : laidMet Tryd.prog Rows.recordClosesUptoRow.laid ((laidWorld os).forCall (fun _ _ => 0) ⟨#[], #[.slice none 0 0, .string .empty], []⟩).memory :=
  laidMet_of_run' 8 (by kernel_rfl) (by kernel_rfl)
theorem reads (os : Os) {H : Type} (enc : TypeId × Value → H) : ∃ places, DataW.whole enc Tryd.prog ((laidWorld os).forCall (fun _ _ => 0) ⟨#[], #[.slice none 0 0, .string .empty], []⟩).memory Tryd.f6.params.toList Rows.recordClosesSpec.vars false #[Value.slice none 0 0, Value.string .empty].toList 8 = some ([.nil, .lit (.string [])], [], places) :=
  ⟨[], by kernel_rfl⟩

set_option maxRecDepth 100000 in
theorem liftedUpto (os : Os) (started : os.Started) (H : Type) (enc : TypeId × Value → H) (F : Stop.Interp) :
    ReturnsInHanded {} Tryd.checked os 6 .any ((Rows.OpenSpec.upto Rows.recordClosesSpec).preRow enc Tryd.prog Tryd.f6 Rows.recordClosesUptoRow.domain false Rows.recordClosesUptoRow.laid) (((Rows.OpenSpec.upto Rows.recordClosesSpec).at F).post enc Tryd.prog Tryd.f6 false true false false) := by
  obtain ⟨places, hx⟩ := reads os enc
  refine returnsInHanded_of_row (C := Tryd.checked) (s := Rows.OpenSpec.upto Rows.recordClosesSpec) own started (by kernel_rfl) Tryd.func6
    (witness_row_at (enc := enc) (C := Tryd.checked) false (laidWorld os) #[.slice none 0 0, .string .empty] rfl (by kernel_rfl) (by kernel_rfl) (by kernel_rfl)
      (OpenSpec.preRow_of_cond 8 hx (by kernel_rfl) (fun k hk => by cases hk; kernel_rfl) (by kernel_rfl) (laid_met os))) ?_
  intro W base args ds gs before hval hW _ hcond _ _ hS _
  exact contract H enc W base args ds gs before hval hW (hcond _ rfl) hS

theorem saidUpto : Rows.RecordClosesUptoSaid :=
  OpenClaim.holds_of_cond 6 Tryd.f6 rfl rfl rfl rfl rfl rfl rfl ⟨rfl, rfl, rfl, rfl, rfl⟩ rfl rfl rfl rfl rfl (by kernel_rfl) Tryd.func6 (by kernel_rfl)
    (of_decide_eq_true (by kernel_rfl)) (by unfold Func.isWrapper; first | (rw [if_pos (by decide +kernel)]; kernel_rfl) | (rw [if_neg (by decide +kernel)]; exact ⟨rfl, rfl⟩))
    (fun os started H enc _ F => by rw [OpenClaim.pre_eq_preRow]; exact liftedUpto os started H enc F)

set_option maxRecDepth 100000 in
/-- No parameter wants a stand-in; the program's own looks are off. -/
theorem plain (f : FuncId) (fn : Func) (hf : Tryd.pinned.checked.prog.funcNamed Tryd.f6.name = some f) (hfn : Tryd.pinned.checked.prog.funcs[f]? = some fn) :
    false = Tryd.pinned.checked.prog.looks [] ∧ ∀ (j : Nat) t, fn.params[j]? = some t → Tryd.pinned.checked.prog.wantsStandIn t = false := by
  obtain rfl : f = 6 := Option.some.inj ((show Tryd.prog.funcNamed Tryd.f6.name = some 6 by kernel_rfl).symm.trans hf) |>.symm
  obtain rfl : fn = Tryd.f6 := (Option.some.inj (Tryd.func6.symm.trans hfn)).symm
  refine ⟨by kernel_rfl, fun j t ht => ?_⟩
  rw [Tryd.params6] at ht
  have ht' : t = 23 ∨ t = 9 := by have := Array.mem_of_getElem? ht; simp at this; omega
  rcases ht' with rfl | rfl
  · exact (show Tryd.prog.wantsStandIn 23 = false by kernel_rfl)
  · exact (show Tryd.prog.wantsStandIn 9 = false by kernel_rfl)

end closes
/-- The statement. -/
theorem recordCloses_holds : Rows.RecordClosesUptoCardSaid :=
  Claim7.holds_tied_plain_at .later [] _ _ _ _ closes.saidUpto (fun _ h => by cases h) (by kernel_rfl) (fun _ h => by cases h) recordClosesUpto_row_tie rfl ⟨rfl, rfl⟩ (by kernel_rfl) rfl closes.plain (by kernel_rfl)
end Go.Proofs.YtmjdgpiofhildaaDoor
