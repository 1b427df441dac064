/- Regions that draw their order: whatever order is drawn, what the text's order leaves. Regions in which what only looks may come ahead of the first thing that turns memory, or behind it. -/
import Derived.Test.YtmjdgpiofhildaaGreatDoorAm5
import Derived.StillTail
namespace Go.Proofs.YtmjdgpiofhildaaGreatDoor
open Go.RowKit

def MI.reads (m : MI) : List Nat := m.args.filterMap (fun | .t n => some n | .c _ => none) ++ (match m.g with | some (t, _) => [t] | none => [])

def MI.apart (x y : MI) : Bool :=
  (match x.dst with | some d => !y.reads.contains d && y.dst != some d | none => true) && (match y.dst with | some d => !x.reads.contains d | none => true)

/-- What an operation waits for. -/
def directs (o : Oper) : List Nat := o.after.toList.filterMap fun e => if Region.binds .any e then some e.on else none

def ancs : List Oper → List (List Nat) → List (List Nat)
  | [], acc => acc
  | o :: os, acc => ancs os (acc ++ [(directs o ++ (directs o).flatMap fun i => acc.getD i []).eraseDups])

/-- Does the operation look at no place in memory? -/
def AO.blind : AO → Bool
  | .mv | .pick | .bin _ | .un _ | .conv _ | .ext _ => true
  | _ => false

/-- Does the order not matter? (E: operations that only look, and that may come ahead of the region's first loud one, or behind it; F: operations that only look, and places behind loud ones that they may come behind.) -/
def drawOKE (E : List Nat) (F : List (Nat × Nat)) (ops : List Oper) (mis : List MI) : Bool :=
  let as := ancs ops []
  let N := ops.length
  (List.range N).all fun k => (((ops[k]?).map directs).getD []).all (fun i => decide (i < k)) &&
    (List.range N).all fun i => !decide (i < k) || ((as.getD k []).contains i || ((mis.getD i botMI).apart (mis.getD k botMI) && (!(mis.getD i botMI).o.loud && !(mis.getD k botMI).o.loud || (mis.getD i botMI).o.blind || (mis.getD k botMI).o.blind ||
      (E.contains k && !(mis.getD k botMI).o.loud && (List.range i).all fun j => !(mis.getD j botMI).o.loud) || (!(mis.getD i botMI).o.loud && F.contains (i, k + 1)))))
def drawOK (ops : List Oper) (mis : List MI) : Bool := drawOKE [] [] ops mis
/-- Operations that look, ahead of a loud one that does not wait for them, and the place behind that. -/
def lates (ops : List Oper) (mis : List MI) : List (Nat × Nat) :=
  let as := ancs ops []
  (List.range ops.length).flatMap fun i => if !(mis.getD i botMI).o.loud && !(mis.getD i botMI).o.blind then
    ((List.range ops.length).filter fun k => decide (i < k) && (mis.getD k botMI).o.loud && !(as.getD k []).contains i).map fun k => (i, k + 1) else []
/-- Operations that look, behind a loud one that they do not wait for. -/
def earlies (ops : List Oper) (mis : List MI) : List Nat :=
  let as := ancs ops []
  (List.range ops.length).filter fun k => !(mis.getD k botMI).o.loud && !(mis.getD k botMI).o.blind && (List.range k).any fun i => (mis.getD i botMI).o.loud && !(as.getD k []).contains i

section
variable {P : Program} {B : Base} {C D : Cx} {h : Heap} {w w' : World} {G : Gam} {a : Act}

/-- A set of operations that are done. -/
def Shut (ops : List Oper) (L : Nat → Bool) : Prop := ∀ j o, ops[j]? = some o → L j = true → ∀ i ∈ directs o, L i = true

theorem ancs_len : ∀ (os : List Oper) (acc : List (List Nat)), (ancs os acc).length = acc.length + os.length
  | [], acc => by simp [ancs]
  | o :: os, acc => by simp [ancs, ancs_len os]; omega

theorem ancs_spec {all : List Oper} {L : Nat → Bool} (hL : Shut all L) : ∀ (os : List Oper) (acc : List (List Nat)) (pre : List Oper), all = pre ++ os → acc.length = pre.length →
    (∀ (j : Nat) o, all[j]? = some o → j < acc.length → (∀ i ∈ directs o, L i = true) → ∀ i ∈ acc.getD j [], L i = true) →
    ∀ (j : Nat) o, all[j]? = some o → (∀ i ∈ directs o, L i = true) → ∀ i ∈ (ancs os acc).getD j [], L i = true
  | [], acc, pre, he, hl, hacc, j, o, ho, hd, i, hi => by
    have : j < acc.length := by
      have := (List.getElem?_eq_some_iff.1 ho).1
      simp [he] at this; omega
    exact hacc j o ho this hd i hi
  | o1 :: os, acc, pre, he, hl, hacc, j, o, ho, hd, i, hi => by
    refine ancs_spec hL os _ (pre ++ [o1]) (by simp [he]) (by simp [hl]) (fun j o ho hj hd i hi => ?_) j o ho hd i hi
    by_cases hj2 : j < acc.length
    · rw [List.getD_eq_getElem?_getD, List.getElem?_append_left hj2, ← List.getD_eq_getElem?_getD] at hi
      exact hacc j o ho hj2 hd i hi
    · have hj3 : j = acc.length := by simp at hj; omega
      subst hj3
      have : o = o1 := by
        rw [he, hl, List.getElem?_append_right (Nat.le_refl _)] at ho
        simpa using ho.symm
      subst this
      rw [List.getD_eq_getElem?_getD, List.getElem?_append_right (Nat.le_refl _)] at hi
      simp only [Nat.sub_self, List.getElem?_cons_zero, Option.getD_some, List.mem_eraseDups, List.mem_append, List.mem_flatMap] at hi
      rcases hi with hi | ⟨m, hm, hi⟩
      · exact hd i hi
      · have hml : L m = true := hd m hm
        by_cases hma : m < acc.length
        · have hmall : m < all.length := by rw [he]; simp; omega
          exact hacc m all[m] (by simp [hmall]) hma (hL m all[m] (by simp [hmall]) hml) i hi
        · rw [List.getD_eq_getElem?_getD, List.getElem?_eq_none (by omega)] at hi; simp at hi

/-- The order of the text, operation by operation. -/
structure Trace (G : Gam) (mis : List MI) (es : Nat → Nat → Option AV) (hs : Nat → Heap) (vs : Nat → AV) : Prop where
  step : ∀ (k : Nat) m, mis[k]? = some m → stepV G true m (es k) (hs k) = some (vs k, hs (k + 1))
  put : ∀ (k : Nat) m, mis[k]? = some m → ∀ t x, es (k + 1) t = some x → (m.dst = some t ∧ x = vs k) ∨ (m.dst ≠ some t ∧ es k t = some x)

theorem trace_of {ks ow : List Nat} {n : Nat} {ops : Array Oper} {env' fr' : List (Nat × AV)} {h' : Heap} : ∀ (os : List Oper) (env fr : List (Nat × AV)) (h : Heap), Sep ks env →
    run G true (os.map (compMI P B.gv ks n ow ops)) (.ok env fr h) = .ok env' fr' h' →
    ∃ es hs vs, Trace G (os.map (compMI P B.gv ks n ow ops)) es hs vs ∧ es 0 = getT env fr ∧ hs 0 = h ∧ es os.length = getT env' fr' ∧ hs os.length = h' ∧ (Sep ks env' ∧ (Keys ks fr → Keys ks fr')) ∧
      (∀ (k : Nat) o, os[k]? = some o → compMI P B.gv ks n ow ops o ≠ botMI)
  | [], env, fr, h, hsep, hrun => by
    simp only [List.map_nil, run, R.ok.injEq] at hrun; obtain ⟨rfl, rfl, rfl⟩ := hrun
    exact ⟨fun _ => getT env fr, fun _ => h, fun _ => .junk, ⟨fun k m hm => by simp at hm, fun k m hm => by simp at hm⟩, rfl, rfl, rfl, rfl, ⟨hsep, id⟩, fun k o hk => by simp at hk⟩
  | o :: os, env, fr, h, hsep, hrun => by
    simp only [List.map_cons, run, evalI] at hrun
    cases hs : stepV G true (compMI P B.gv ks n ow ops o) (getT env fr) h with
    | none => rw [hs] at hrun; simp only [bindR, run_bad] at hrun; cases hrun
    | some vh =>
      obtain ⟨v, h1⟩ := vh
      rw [hs] at hrun
      have hne : compMI P B.gv ks n ow ops o ≠ botMI := fun e1 => by rw [e1, bot_none] at hs; cases hs
      obtain ⟨c1, c2, c3⟩ := compMI_dst hne
      generalize hb : bindR (compMI P B.gv ks n ow ops o).dst (compMI P B.gv ks n ow ops o).kept env fr (some (v, h1)) = r1 at hrun
      cases r1 with
      | bad => rw [run_bad] at hrun; cases hrun
      | ok env1 fr1 h2 =>
        obtain ⟨rfl, hsep1, hk1, hget⟩ := bind_get hsep (by rw [c2, c1]) hb
        obtain ⟨es, hs', vs, ht, e1, e2, e3, e4, e5, e6⟩ := trace_of os env1 fr1 h2 hsep1 hrun
        refine ⟨fun k => match k with | 0 => getT env fr | k + 1 => es k, fun k => match k with | 0 => h | k + 1 => hs' k, fun k => match k with | 0 => v | k + 1 => vs k, ⟨fun k m hm => ?_, fun k m hm t x hx => ?_⟩, rfl, rfl, e3, e4, ⟨e5.1, fun hk => e5.2 (hk1 hk)⟩, fun k o' hk => ?_⟩
        · cases k with
          | zero => simp at hm; subst hm; show _ = some (v, hs' 0); rw [e2]; exact hs
          | succ k => exact ht.step k m (by simpa using hm)
        · cases k with
          | zero => simp at hm; subst hm; have hx' : es 0 t = some x := hx; rw [e1] at hx'; exact hget t x hx'
          | succ k => exact ht.put k m (by simpa using hm) t x hx
        · cases k with
          | zero => simp at hk; subst hk; exact hne
          | succ k => exact e6 k o' (by simpa using hk)

def MI.dstAt (mis : List MI) (k : Nat) : Option Nat := (mis[k]?).bind (·.dst)
def MI.loudAt (mis : List MI) (k : Nat) : Bool := (mis.getD k botMI).o.loud

/-- What the temporaries hold once the operations of L are done. -/
def Eat (mis : List MI) (e0 : Nat → Option AV) (vs : Nat → AV) (L : Nat → Bool) : Nat → Nat → Option AV
  | 0, t => e0 t
  | k + 1, t => if L k = true ∧ MI.dstAt mis k = some t then some (vs k) else Eat mis e0 vs L k t

def Hat (mis : List MI) (hs : Nat → Heap) (L : Nat → Bool) : Nat → Heap
  | 0 => hs 0
  | k + 1 => if L k = true ∧ MI.loudAt mis k = true then hs (k + 1) else Hat mis hs L k

theorem Eat_of_trace {mis : List MI} {es : Nat → Nat → Option AV} {hs : Nat → Heap} {vs : Nat → AV} (ht : Trace G mis es hs vs) {t : Nat} : ∀ (k : Nat) x, k ≤ mis.length → es k t = some x → Eat mis (es 0) vs (fun _ => true) k t = some x
  | 0, x, _, h => h
  | k + 1, x, hk, h => by
    have hm : mis[k]? = some mis[k] := by simp
    simp only [Eat]
    rcases ht.put k _ hm t x h with ⟨h1, rfl⟩ | ⟨h1, h2⟩
    · rw [if_pos ⟨trivial, by simp only [MI.dstAt, hm, Option.bind_some]; exact h1⟩]
    · rw [if_neg (fun e => h1 (by simpa only [MI.dstAt, hm, Option.bind_some] using e.2))]
      exact Eat_of_trace ht k x (by omega) h2

theorem Eat_all {mis : List MI} {e0 : Nat → Option AV} {vs : Nat → AV} {L : Nat → Bool} {t : Nat} : ∀ (k : Nat), (∀ i, i < k → MI.dstAt mis i = some t → L i = true) → Eat mis e0 vs L k t = Eat mis e0 vs (fun _ => true) k t
  | 0, _ => rfl
  | k + 1, h => by
    simp only [Eat, true_and]
    by_cases hd : MI.dstAt mis k = some t
    · rw [if_pos ⟨h k (by omega) hd, hd⟩, if_pos hd]
    · rw [if_neg (fun e => hd e.2), if_neg hd]; exact Eat_all k (fun i hi => h i (by omega))

theorem Eat_up {mis : List MI} {e0 : Nat → Option AV} {vs : Nat → AV} {L : Nat → Bool} {t k : Nat} : ∀ (d : Nat), (∀ i, k ≤ i → i < k + d → MI.dstAt mis i = some t → L i = false) → Eat mis e0 vs L (k + d) t = Eat mis e0 vs L k t
  | 0, _ => rfl
  | d + 1, h => by
    rw [show k + (d + 1) = (k + d) + 1 by omega]
    simp only [Eat]
    rw [if_neg (fun e => by have := h (k + d) (by omega) (by omega) e.2; rw [e.1] at this; cases this)]
    exact Eat_up d (fun i h1 h2 => h i h1 (by omega))

theorem Eat_congr {mis : List MI} {e0 : Nat → Option AV} {vs : Nat → AV} {L L' : Nat → Bool} {t : Nat} : ∀ (k : Nat), (∀ i, i < k → MI.dstAt mis i = some t → L' i = L i) → Eat mis e0 vs L' k t = Eat mis e0 vs L k t
  | 0, _ => rfl
  | k + 1, h => by
    simp only [Eat]
    by_cases hd : MI.dstAt mis k = some t
    · rw [h k (by omega) hd, Eat_congr k (fun i hi => h i (by omega))]
    · rw [if_neg (fun e => hd e.2), if_neg (fun e => hd e.2)]; exact Eat_congr k (fun i hi => h i (by omega))

theorem Hat_all {mis : List MI} {hs : Nat → Heap} {L : Nat → Bool} : ∀ (k : Nat), (∀ i, i < k → MI.loudAt mis i = true → L i = true) → (∀ i, i < k → MI.loudAt mis i = false → hs (i + 1) = hs i) → Hat mis hs L k = hs k
  | 0, _, _ => rfl
  | k + 1, h, hq => by
    simp only [Hat]
    by_cases hd : MI.loudAt mis k = true
    · rw [if_pos ⟨h k (by omega) hd, hd⟩]
    · rw [if_neg (fun e => hd e.2), Hat_all k (fun i hi => h i (by omega)) (fun i hi => hq i (by omega)), hq k (by omega) (by simpa using hd)]

theorem Hat_up {mis : List MI} {hs : Nat → Heap} {L : Nat → Bool} {k : Nat} : ∀ (d : Nat), (∀ i, k ≤ i → i < k + d → MI.loudAt mis i = true → L i = false) → Hat mis hs L (k + d) = Hat mis hs L k
  | 0, _ => rfl
  | d + 1, h => by
    rw [show k + (d + 1) = (k + d) + 1 by omega]
    simp only [Hat]
    rw [if_neg (fun e => by have := h (k + d) (by omega) (by omega) e.2; rw [e.1] at this; cases this)]
    exact Hat_up d (fun i h1 h2 => h i h1 (by omega))

theorem getA_mono {e e' : Nat → Option AV} {x : At} (h : ∀ t, x = .t t → ∀ v, e t = some v → e' t = some v) {v : AV} (hv : getA e x = some v) : getA e' x = some v := by
  cases x with
  | t n => exact h n rfl v hv
  | c v => exact hv

theorem getAs_mono {e e' : Nat → Option AV} : ∀ {xs : List At} {vs : List AV}, (∀ t, At.t t ∈ xs → ∀ v, e t = some v → e' t = some v) → getAs e xs = some vs → getAs e' xs = some vs
  | [], vs, _, h => h
  | x :: xs, vs, hm, h => by
    simp only [getAs] at h ⊢
    split at h
    · rename_i v vs' h1 h2
      rw [getA_mono (fun t ht => hm t (by simp [ht])) h1, getAs_mono (fun t ht => hm t (by simp [ht])) h2]
      exact h
    · cases h

theorem stepV_mono {s : Bool} {m : MI} {e e' : Nat → Option AV} {r : AV × Heap} (hm : ∀ t ∈ m.reads, ∀ v, e t = some v → e' t = some v) (h1 : stepV G s m e h = some r) : stepV G s m e' h = some r := by
  have hargs : ∀ vs, getAs e m.args = some vs → getAs e' m.args = some vs := fun vs => getAs_mono fun t ht => hm t (by simp only [MI.reads, List.mem_append, List.mem_filterMap]; exact .inl ⟨_, ht, rfl⟩)
  have go : ∀ {r}, (match getAs e m.args with
      | some vs => if s && !m.o.loud then (evalStill G h m.o vs).map fun v => (v, h) else evalAll G h m.o vs
      | none => none) = some r → (match getAs e' m.args with
      | some vs => if s && !m.o.loud then (evalStill G h m.o vs).map fun v => (v, h) else evalAll G h m.o vs
      | none => none) = some r := fun {r} hr => by
    split at hr
    · rename_i vs hvs; rw [hargs vs hvs]; exact hr
    · cases hr
  unfold stepV at h1 ⊢
  cases hg : m.g with
  | none => rw [hg] at h1; exact go h1
  | some tw =>
    obtain ⟨t, want⟩ := tw
    rw [hg] at h1
    have ht : t ∈ m.reads := by simp [MI.reads, hg]
    simp only at h1 ⊢
    split at h1
    · rename_i b hb
      rw [hm t ht _ hb]
      simp only
      split at h1
      · rename_i hbw; rw [if_pos hbw]; exact go h1
      · rename_i hbw; rw [if_neg hbw]; exact h1
    · rename_i hb; rw [hm t ht _ hb]; exact h1
    · cases h1

theorem still_heap {m : MI} {e : Nat → Option AV} {v : AV} {h' : Heap} (hq : m.o.loud = false) (h1 : stepV G true m e h = some (v, h')) : h' = h := by
  have go : ∀ {r : AV × Heap}, (match getAs e m.args with
      | some vs => if true && !m.o.loud then (evalStill G h m.o vs).map fun v => (v, h) else evalAll G h m.o vs
      | none => none) = some r → r.2 = h := fun {r} hr => by
    split at hr
    · simp only [hq, Bool.not_false, Bool.and_self, if_true, Option.map_eq_some_iff] at hr
      obtain ⟨_, _, rfl⟩ := hr; rfl
    · cases hr
  unfold stepV at h1
  simp only at h1
  split at h1
  · exact go h1
  · split at h1
    · split at h1
      · exact go h1
      · injection h1 with h1; injection h1 with _ h1; exact h1.symm
    · injection h1 with h1; injection h1 with _ h1; exact h1.symm
    · cases h1

theorem blind_quiet {o : AO} (hb : o.blind = true) : o.quiet = true := by cases o <;> first | rfl | cases hb
theorem blind_low {o : AO} (hb : o.blind = true) : o.loud = false := by cases o <;> first | rfl | cases hb
theorem blind_pure {o : AO} (hb : o.blind = true) (h h' : Heap) (vs : List AV) : evalPure h o vs = evalPure h' o vs := by
  cases o <;> first | exact absurd hb Bool.false_ne_true | (rcases vs with _ | ⟨x, _ | ⟨y, _ | ⟨z, _ | ⟨u, r⟩⟩⟩⟩ <;> first | rfl | (cases x <;> rfl))
/-- Such an operation yields the same whatever lies in memory. -/
theorem blind_step {m : MI} {e : Nat → Option AV} {h h1 : Heap} {v : AV} (hb : m.o.blind = true) (hs : stepV G true m e h = some (v, h1)) (h2 : Heap) : stepV G true m e h2 = some (v, h2) := by
  have hl := blind_low hb
  have hq := blind_quiet hb
  have hst : ∀ vs, evalStill G h m.o vs = evalStill G h2 m.o vs := fun vs => by
    unfold evalStill; rw [if_pos hq, if_pos hq]; exact blind_pure hb _ _ vs
  have go : (match getAs e m.args with
      | some vs => if true && !m.o.loud then (evalStill G h m.o vs).map fun v => (v, h) else evalAll G h m.o vs
      | none => none) = some (v, h1) → (match getAs e m.args with
      | some vs => if true && !m.o.loud then (evalStill G h2 m.o vs).map fun v => (v, h2) else evalAll G h2 m.o vs
      | none => none) = some (v, h2) := fun hr => by
    split at hr
    · rename_i vs hvs
      simp only [hl, Bool.not_false, Bool.and_self, if_true, Option.map_eq_some_iff] at hr ⊢
      obtain ⟨x, hx, hy⟩ := hr
      injection hy with hy _
      exact ⟨x, by rw [← hst]; exact hx, by rw [hy]⟩
    · cases hr
  unfold stepV at hs ⊢
  simp only at hs ⊢
  split at hs
  · exact go hs
  · split at hs
    · split at hs
      · rename_i hbw; rw [if_pos hbw]; exact go hs
      · rename_i hbw; rw [if_neg hbw]; injection hs with hs; injection hs with hs _; rw [hs]
    · injection hs with hs; injection hs with hs _; rw [hs]
    · cases hs

theorem Hat_congr {mis : List MI} {hs : Nat → Heap} {L L' : Nat → Bool} : ∀ (k : Nat), (∀ i, i < k → MI.loudAt mis i = true → L' i = L i) → Hat mis hs L' k = Hat mis hs L k
  | 0, _ => rfl
  | k + 1, h => by
    simp only [Hat]
    by_cases hd : MI.loudAt mis k = true
    · rw [h k (by omega) hd, Hat_congr k (fun i hi => h i (by omega))]
    · rw [if_neg (fun e => hd e.2), if_neg (fun e => hd e.2)]; exact Hat_congr k (fun i hi => h i (by omega))

/-- How many operations are not done yet. -/
def undone (N : Nat) (L : Nat → Bool) : Nat := ((List.range N).filter fun i => !L i).length

theorem filter_less {α : Type} {p q : α → Bool} (hpq : ∀ x, q x = true → p x = true) : ∀ {l : List α} {k : α}, k ∈ l → p k = true → q k = false → (l.filter q).length < (l.filter p).length
  | [], k, hk, _, _ => by simp at hk
  | x :: l, k, hk, h1, h2 => by
    have hle : ∀ l : List α, (l.filter q).length ≤ (l.filter p).length := fun l => by
      induction l with
      | nil => simp
      | cons y l ih =>
        simp only [List.filter_cons]
        cases hq : q y with
        | true => rw [hpq y hq]; simpa using ih
        | false =>
          cases hp : p y with
          | true => simp; omega
          | false => simpa using ih
    rcases List.mem_cons.1 hk with rfl | hk
    · simp only [List.filter_cons, h1, h2, if_true, Bool.false_eq_true, if_false, List.length_cons]
      have := hle l; omega
    · have ih := filter_less hpq hk h1 h2
      simp only [List.filter_cons]
      cases hq : q x with
      | true => rw [hpq x hq]; simpa using ih
      | false =>
        cases hp : p x with
        | true => simp; omega
        | false => simpa using ih

theorem Hat_none {mis : List MI} {hs : Nat → Heap} {L : Nat → Bool} : ∀ (k : Nat), (∀ i, i < k → MI.loudAt mis i = true → L i = false) → Hat mis hs L k = hs 0
  | 0, _ => rfl
  | k + 1, h => by
    simp only [Hat]
    rw [if_neg (fun e => by rw [h k (by omega) e.2] at e; cases e.1)]
    exact Hat_none k fun i hi => h i (by omega)

theorem any_sound {ro : Option Nat} {E : List Nat} {F : List (Nat × Nat)} (hG : GamB P B G) {ks ow : List Nat} {n : Nat} {ops : Array Oper} {Q : Exit → Act → World → Prop} {d : List Deferred} {w0 : World} {C0 : Cx} {es : Nat → Nat → Option AV} {hs : Nat → Heap} {vs : Nat → AV}
    (hok : drawOKE E F ops.toList (compReg P B.gv ks n ow ops) = true) (hE : ∀ k ∈ E, ∀ m, (compReg P B.gv ks n ow ops)[k]? = some m → stepV G true m (es k) (hs 0) = some (vs k, hs 0))
    (hF : ∀ k p, F.contains (k, p) = true → k < p → p ≤ ops.size → ∀ m, (compReg P B.gv ks n ow ops)[k]? = some m → stepV G true m (es k) (hs p) = some (vs k, hs p)) (ht : Trace G (compReg P B.gv ks n ow ops) es hs vs) (hnb : ∀ (k : Nat) o, ops.toList[k]? = some o → compMI P B.gv ks n ow ops o ≠ botMI)
    (hQ : ∀ D a' w', C0.Le D → Inv B D (hs ops.size) w' → RelT D (es ops.size) a' → n ≤ a'.tmps.size → a'.defers = d → Keep B w0 w' → Q .normal a' w') :
    ∀ (fuel : Nat) (listed : Array Bool) (C : Cx) (a : Act) (w : World), listed.size = ops.size → Shut ops.toList (fun i => listed.getD i false) → undone ops.size (fun i => listed.getD i false) ≤ fuel → C0.Le C → Keep B w0 w →
      Inv B C (Hat (compReg P B.gv ks n ow ops) hs (fun i => listed.getD i false) ops.size) w → RelT C (Eat (compReg P B.gv ks n ow ops) (es 0) vs (fun i => listed.getD i false) ops.size) a → n ≤ a.tmps.size → a.defers = d →
      wpAnyIn (fR ro) 0 P .any ops Q fuel listed a w := by
  have hmlen : (compReg P B.gv ks n ow ops).length = ops.size := by simp [compReg]
  have hmget : ∀ (k : Nat) o, ops[k]? = some o → (compReg P B.gv ks n ow ops)[k]? = some (compMI P B.gv ks n ow ops o) := fun k o ho => by simp [compReg, ho]
  have hmgetD : ∀ (k : Nat) o, ops[k]? = some o → (compReg P B.gv ks n ow ops).getD k botMI = compMI P B.gv ks n ow ops o := fun k o ho => by rw [List.getD_eq_getElem?_getD, hmget k o ho]; rfl
  -- what the check says
  have chk : ∀ k, k < ops.size → (∀ o, ops[k]? = some o → ∀ i ∈ directs o, i < k) ∧ ∀ i, i < k → ((ancs ops.toList []).getD k []).contains i = true ∨
      (((compReg P B.gv ks n ow ops).getD i botMI).apart ((compReg P B.gv ks n ow ops).getD k botMI) = true ∧ ((((compReg P B.gv ks n ow ops).getD i botMI).o.loud = false ∧ ((compReg P B.gv ks n ow ops).getD k botMI).o.loud = false) ∨ ((compReg P B.gv ks n ow ops).getD i botMI).o.blind = true ∨ ((compReg P B.gv ks n ow ops).getD k botMI).o.blind = true ∨ (E.contains k = true ∧ ((compReg P B.gv ks n ow ops).getD k botMI).o.loud = false ∧ ∀ j, j < i → ((compReg P B.gv ks n ow ops).getD j botMI).o.loud = false) ∨ (((compReg P B.gv ks n ow ops).getD i botMI).o.loud = false ∧ F.contains (i, k + 1) = true))) := by
    intro k hk
    unfold drawOKE at hok
    have h1 := List.all_eq_true.1 hok k (List.mem_range.2 (by simpa using hk))
    simp only [Bool.and_eq_true] at h1
    refine ⟨fun o ho i hi => ?_, fun i hi => ?_⟩
    · have h2 := h1.1
      rw [show ops.toList[k]? = some o by simpa using ho] at h2
      have := List.all_eq_true.1 h2 i hi
      simpa using this
    · have h2 := List.all_eq_true.1 h1.2 i (List.mem_range.2 (by simp; omega))
      simp only [Bool.or_eq_true, Bool.not_eq_true', decide_eq_false_iff_not, Bool.and_eq_true] at h2
      rcases h2 with h2 | h2 | h2
      · omega
      · exact .inl h2
      · refine .inr ⟨h2.1, ?_⟩
        rcases h2.2 with (((h3 | h3) | h3) | h3) | h3
        · exact .inl h3
        · exact .inr (.inl h3)
        · exact .inr (.inr (.inl h3))
        · refine .inr (.inr (.inr (.inl ⟨h3.1.1, h3.1.2, fun j hj => ?_⟩)))
          have := List.all_eq_true.1 h3.2 j (List.mem_range.2 hj)
          simpa using this
        · exact .inr (.inr (.inr (.inr h3)))
  have waits : ∀ (L : Nat → Bool), Shut ops.toList L → ∀ k o, ops[k]? = some o → (∀ i ∈ directs o, L i = true) → ∀ i, ((ancs ops.toList []).getD k []).contains i = true → L i = true := fun L hL k o ho hd i hi =>
    ancs_spec hL ops.toList [] [] rfl rfl (fun j o _ hj => by simp at hj) k o (by simpa using ho) hd i (by simpa using hi)
  have quiet : ∀ i, i < ops.size → MI.loudAt (compReg P B.gv ks n ow ops) i = false → hs (i + 1) = hs i := fun i hi hq => by
    have ho : ops[i]? = some ops[i] := by simp [hi]
    have hs1 := ht.step i _ (hmget i _ ho)
    refine still_heap ?_ hs1
    unfold MI.loudAt at hq; rw [hmgetD i _ ho] at hq; exact hq
  intro fuel
  induction fuel with
  | zero =>
    intro listed C a w hsize hshut hcnt hle hbw hinv hrel htm hdf
    have hall : ∀ i, i < ops.size → listed.getD i false = true := fun i hi => by
      cases hb : listed.getD i false with
      | true => rfl
      | false =>
        have : i ∈ (List.range ops.size).filter fun i => !listed.getD i false := List.mem_filter.2 ⟨List.mem_range.2 hi, by rw [hb]; rfl⟩
        have := List.length_pos_of_mem this
        unfold undone at hcnt; dsimp only at hcnt; omega
    refine ⟨?_, ?_⟩
    · cases hr : Region.ready .any ops listed with
      | nil => rfl
      | cons i r =>
        have hm : i ∈ Region.ready .any ops listed := by rw [hr]; simp
        obtain ⟨h1, oi, h2, _⟩ := mem_ready.1 hm
        have hi : i < ops.size := (Array.getElem?_eq_some_iff.1 h2).1
        have h3 := hall i hi
        have hi' : i < listed.size := by omega
        simp [hi'] at h1 h3; rw [h1] at h3; cases h3
    · refine hQ C a w hle ?_ (fun t x hx => hrel t x ?_) htm hdf hbw
      · rw [← Hat_all ops.size (fun i hi _ => hall i hi) (fun i hi => quiet i hi)]; exact hinv
      · rw [Eat_all ops.size (fun i hi _ => hall i hi)]
        exact Eat_of_trace ht ops.size x (by omega) hx
  | succ fuel ih =>
    intro listed C a w hsize hshut hcnt hle hbw hinv hrel htm hdf
    refine ⟨fun hr => ?_, fun k hk => ?_⟩
    · -- nothing ready: all done
      have hall : ∀ i, i < ops.size → listed.getD i false = true := by
        intro i
        induction i using Nat.strongRecOn with
        | _ i ihi =>
          intro hi
          cases hb : listed.getD i false with
          | true => rfl
          | false =>
            have ho : ops[i]? = some ops[i] := by simp [hi]
            have : i ∈ Region.ready .any ops listed := mem_ready.2 ⟨by
              have hi' : i < listed.size := by omega
              simp [hi'] at hb ⊢; exact hb, ops[i], ho, fun e he hb => by
              have hlt := (chk i hi).1 _ ho e.on (List.mem_filterMap.2 ⟨e, by simpa using he, by rw [if_pos hb]⟩)
              exact ihi e.on hlt (by omega)⟩
            rw [hr] at this; cases this
      refine hQ C a w hle ?_ (fun t x hx => hrel t x ?_) htm hdf hbw
      · rw [← Hat_all ops.size (fun i hi _ => hall i hi) (fun i hi => quiet i hi)]; exact hinv
      · rw [Eat_all ops.size (fun i hi _ => hall i hi)]
        exact Eat_of_trace ht ops.size x (by omega) hx
    · obtain ⟨hun, o, ho, hwait⟩ := mem_ready.1 hk
      have hkN : k < ops.size := (Array.getElem?_eq_some_iff.1 ho).1
      have hkl : k < listed.size := by omega
      have hun' : listed.getD k false = false := by simp [hkl] at hun ⊢; exact hun
      have hdir : ∀ i ∈ directs o, listed.getD i false = true := fun i hi => by
        obtain ⟨e, he, h1⟩ := List.mem_filterMap.1 hi
        split at h1
        · rename_i hb; injection h1 with h1; subst h1; exact hwait e (by simpa using he) hb
        · cases h1
      have hanc := waits _ hshut k o ho hdir
      have hm := hmget k o ho
      have hmD := hmgetD k o ho
      -- what comes later and leans on k is not done
      have later : ∀ j, k < j → j < ops.size → ((ancs ops.toList []).getD j []).contains k = true → listed.getD j false = false := fun j h1 h2 h3 => by
        cases hb : listed.getD j false with
        | false => rfl
        | true =>
          have hoj : ops[j]? = some ops[j] := by simp [h2]
          have := waits _ hshut j _ hoj (hshut j ops[j] (by simp) hb) k h3
          rw [hun'] at this; cases this
      -- a pair of which one is seen to be loud
      have apart2 : ∀ i j, i < j → j < ops.size → ((((compReg P B.gv ks n ow ops).getD i botMI).o.loud = false ∧ ((compReg P B.gv ks n ow ops).getD j botMI).o.loud = false) ∨ ((compReg P B.gv ks n ow ops).getD i botMI).o.blind = true ∨ ((compReg P B.gv ks n ow ops).getD j botMI).o.blind = true ∨ (E.contains j = true ∧ ((compReg P B.gv ks n ow ops).getD j botMI).o.loud = false ∧ ∀ j', j' < i → ((compReg P B.gv ks n ow ops).getD j' botMI).o.loud = false) ∨ (((compReg P B.gv ks n ow ops).getD i botMI).o.loud = false ∧ F.contains (i, j + 1) = true)) →
          (((compReg P B.gv ks n ow ops).getD i botMI).o.loud = true → ((compReg P B.gv ks n ow ops).getD j botMI).o.blind = true ∨ (E.contains j = true ∧ ((compReg P B.gv ks n ow ops).getD j botMI).o.loud = false ∧ ∀ j', j' < i → ((compReg P B.gv ks n ow ops).getD j' botMI).o.loud = false)) ∧ (((compReg P B.gv ks n ow ops).getD j botMI).o.loud = true → ((compReg P B.gv ks n ow ops).getD i botMI).o.blind = true ∨ (((compReg P B.gv ks n ow ops).getD i botMI).o.loud = false ∧ F.contains (i, j + 1) = true)) := fun i j _ _ h => by
        rcases h with ⟨h1, h2⟩ | h | h | h | h
        · exact ⟨fun e => (by rw [h1] at e; cases e), fun e => (by rw [h2] at e; cases e)⟩
        · exact ⟨fun e => (by rw [blind_low h] at e; cases e), fun _ => .inl h⟩
        · exact ⟨fun _ => .inl h, fun e => (by rw [blind_low h] at e; cases e)⟩
        · exact ⟨fun _ => .inr h, fun e => (by rw [h.2.1] at e; cases e)⟩
        · exact ⟨fun e => (by rw [h.1] at e; cases e), fun _ => .inr h⟩
      -- the heap
      have hHk : (compMI P B.gv ks n ow ops o).o.blind = false → (∀ i, k < i → i < ops.size → MI.loudAt (compReg P B.gv ks n ow ops) i = true → listed.getD i false = false) → Hat (compReg P B.gv ks n ow ops) hs (fun i => listed.getD i false) ops.size = Hat (compReg P B.gv ks n ow ops) hs (fun i => listed.getD i false) k := fun hnbl hno => by
        have := Hat_up (mis := compReg P B.gv ks n ow ops) (hs := hs) (L := fun i => listed.getD i false) (k := k) (ops.size - k) (fun i h1 h2 h3 => by
          by_cases hik : i = k
          · subst hik; exact hun'
          · exact hno i (by omega) (by omega) h3)
        rw [show k + (ops.size - k) = ops.size by omega] at this
        exact this
      -- loud ones come in the text's order
      have loud2 : ∀ i j, i < j → j < ops.size → MI.loudAt (compReg P B.gv ks n ow ops) i = true → MI.loudAt (compReg P B.gv ks n ow ops) j = true → ((ancs ops.toList []).getD j []).contains i = true := fun i j hij hj hli hlj => by
        rcases (chk j hj).2 i hij with h4 | ⟨_, h4⟩
        · exact h4
        · exfalso
          have hli' : ((compReg P B.gv ks n ow ops).getD i botMI).o.loud = true := hli
          rcases (apart2 i j hij hj h4).2 hlj with h5 | h5
          · rw [blind_low h5] at hli'; cases hli'
          · rw [h5.1] at hli'; cases hli'
      have hnone : (compMI P B.gv ks n ow ops o).o.loud = true → ∀ i, k < i → i < ops.size → MI.loudAt (compReg P B.gv ks n ow ops) i = true → listed.getD i false = false := fun hlk i hki hi hli =>
        later i hki hi (loud2 k i hki hi (by unfold MI.loudAt; rw [hmD]; exact hlk) hli)
      have hH : (compMI P B.gv ks n ow ops o).o.blind = false → Hat (compReg P B.gv ks n ow ops) hs (fun i => listed.getD i false) ops.size = hs k ∨ (E.contains k = true ∧ (compMI P B.gv ks n ow ops o).o.loud = false ∧ Hat (compReg P B.gv ks n ow ops) hs (fun i => listed.getD i false) ops.size = hs 0) ∨ ((compMI P B.gv ks n ow ops o).o.loud = false ∧ ∃ p, F.contains (k, p) = true ∧ k < p ∧ p ≤ ops.size ∧ Hat (compReg P B.gv ks n ow ops) hs (fun i => listed.getD i false) ops.size = hs p) := fun hnbl => by
        by_cases hlast : ∃ i, k < i ∧ i < ops.size ∧ MI.loudAt (compReg P B.gv ks n ow ops) i = true ∧ listed.getD i false = true
        · -- the last loud one that is done comes behind k in the text
          right; right
          obtain ⟨j, hkj, hj, hlj, hdj, hmax⟩ : ∃ j, k < j ∧ j < ops.size ∧ MI.loudAt (compReg P B.gv ks n ow ops) j = true ∧ listed.getD j false = true ∧ ∀ i, j < i → i < ops.size → MI.loudAt (compReg P B.gv ks n ow ops) i = true → listed.getD i false = false := by
            have go : ∀ (m i : Nat), ops.size - i ≤ m → k < i → i < ops.size → MI.loudAt (compReg P B.gv ks n ow ops) i = true → listed.getD i false = true →
                ∃ j, k < j ∧ j < ops.size ∧ MI.loudAt (compReg P B.gv ks n ow ops) j = true ∧ listed.getD j false = true ∧ ∀ i, j < i → i < ops.size → MI.loudAt (compReg P B.gv ks n ow ops) i = true → listed.getD i false = false := by
              intro m
              induction m with
              | zero => intro i h1 _ h3; omega
              | succ m ihm =>
                intro i h1 h2 h3 h4 h5
                by_cases hmore : ∃ i', i < i' ∧ i' < ops.size ∧ MI.loudAt (compReg P B.gv ks n ow ops) i' = true ∧ listed.getD i' false = true
                · obtain ⟨i', g1, g2, g3, g4⟩ := hmore
                  exact ihm i' (by omega) (by omega) g2 g3 g4
                · refine ⟨i, h2, h3, h4, h5, fun i' g1 g2 g3 => ?_⟩
                  cases hb : listed.getD i' false with
                  | false => rfl
                  | true => exact absurd ⟨i', g1, g2, g3, hb⟩ hmore
            obtain ⟨i, h2, h3, h4, h5⟩ := hlast
            exact go ops.size i (by omega) h2 h3 h4 h5
          have hoj : ops[j]? = some ops[j] := by simp [hj]
          have hF2 : (compMI P B.gv ks n ow ops o).o.loud = false ∧ F.contains (k, j + 1) = true := by
            rcases (chk j hj).2 k hkj with h4 | ⟨_, h4⟩
            · have := waits _ hshut j _ hoj (hshut j ops[j] (by simp) hdj) k h4
              rw [hun'] at this; cases this
            · rcases (apart2 k j hkj hj h4).2 hlj with h5 | h5
              · rw [hmD, hnbl] at h5; cases h5
              · rw [hmD] at h5; exact h5
          refine ⟨hF2.1, j + 1, hF2.2, by omega, by omega, ?_⟩
          have e1 := Hat_up (mis := compReg P B.gv ks n ow ops) (hs := hs) (L := fun i => listed.getD i false) (k := j + 1) (ops.size - (j + 1)) (fun i h1 h2 h3 => hmax i (by omega) (by omega) h3)
          rw [show j + 1 + (ops.size - (j + 1)) = ops.size by omega] at e1
          rw [e1]
          refine Hat_all (j + 1) (fun i hi h3 => ?_) (fun i hi => quiet i (by omega))
          by_cases hij : i = j
          · subst hij; exact hdj
          · exact waits _ hshut j _ hoj (hshut j ops[j] (by simp) hdj) i (loud2 i j (by omega) hj h3 hlj)
        rw [hHk hnbl (fun i h1 h2 h3 => by
          cases hb : listed.getD i false with
          | false => rfl
          | true => exact absurd ⟨i, h1, h2, h3, hb⟩ hlast)]
        by_cases hall : ∀ i, i < k → MI.loudAt (compReg P B.gv ks n ow ops) i = true → listed.getD i false = true
        · exact .inl (Hat_all k hall (fun i hi => quiet i (by omega)))
        · right
          have hex : ∃ i, i < k ∧ MI.loudAt (compReg P B.gv ks n ow ops) i = true ∧ listed.getD i false = false := by
            refine Classical.byContradiction fun hno => hall fun i hi hl => ?_
            cases hb : listed.getD i false with
            | true => rfl
            | false => exact absurd ⟨i, hi, hl, hb⟩ hno
          obtain ⟨i, hi, hil, hiu⟩ := hex
          have hcond : E.contains k = true ∧ ((compReg P B.gv ks n ow ops).getD k botMI).o.loud = false ∧ ∀ j', j' < i → ((compReg P B.gv ks n ow ops).getD j' botMI).o.loud = false := by
            rcases (chk k hkN).2 i hi with h4 | ⟨_, h4⟩
            · have := hanc i h4; rw [hiu] at this; cases this
            · rcases (apart2 i k hi hkN h4).1 hil with h5 | h5
              · rw [hmD, hnbl] at h5; cases h5
              · exact h5
          refine .inl ⟨hcond.1, by rw [← hmD]; exact hcond.2.1, Hat_none k fun j hj hjl => ?_⟩
          cases hb : listed.getD j false with
          | false => rfl
          | true =>
            rcases Nat.lt_trichotomy j i with hji | hji | hji
            · have := hcond.2.2 j hji
              have hjl' : ((compReg P B.gv ks n ow ops).getD j botMI).o.loud = true := hjl
              rw [this] at hjl'; cases hjl'
            · subst hji; rw [hiu] at hb; cases hb
            · have hoj : ops[j]? = some ops[j] := by simp [show j < ops.size by omega]
              have := waits _ hshut j _ hoj (hshut j ops[j] (by simp) hb) i (loud2 i j hji (by omega) hil hjl)
              rw [hiu] at this; cases this
      -- what it looks at
      have hread : ∀ t ∈ (compMI P B.gv ks n ow ops o).reads, ∀ x, es k t = some x → Eat (compReg P B.gv ks n ow ops) (es 0) vs (fun i => listed.getD i false) ops.size t = some x := by
        intro t htr x hx
        have e1 := Eat_of_trace ht k x (by omega) hx
        rw [← e1]
        have e2 := Eat_up (mis := compReg P B.gv ks n ow ops) (e0 := es 0) (vs := vs) (L := fun i => listed.getD i false) (t := t) (k := k) (ops.size - k) (fun i h1 h2 h3 => by
          by_cases hik : i = k
          · subst hik; exact hun'
          · have hoi : ops[i]? = some ops[i] := by simp [show i < ops.size by omega]
            rcases (chk i (by omega)).2 k (by omega) with h4 | ⟨h4, _⟩
            · exact later i (by omega) (by omega) h4
            · exfalso
              rw [hmD, hmgetD i _ hoi] at h4
              have h5 : (compMI P B.gv ks n ow ops ops[i]).dst = some t := by simpa [MI.dstAt, hmget i _ hoi] using h3
              simp only [MI.apart, h5, Bool.and_eq_true] at h4
              have h6 := h4.2
              simp at h6
              exact h6 htr)
        rw [show k + (ops.size - k) = ops.size by omega] at e2
        rw [e2]
        refine Eat_all k (fun i hi h3 => ?_)
        have hoi : ops[i]? = some ops[i] := by simp [show i < ops.size by omega]
        rcases (chk k hkN).2 i hi with h4 | ⟨h4, _⟩
        · exact hanc i h4
        · exfalso
          rw [hmD, hmgetD i _ hoi] at h4
          have h5 : (compMI P B.gv ks n ow ops ops[i]).dst = some t := by simpa [MI.dstAt, hmget i _ hoi] using h3
          simp only [MI.apart, h5, Bool.and_eq_true] at h4
          have h6 := h4.1.1
          simp at h6
          exact h6 htr
      have hset : ∀ i, (listed.setIfInBounds k true).getD i false = if i = k then true else listed.getD i false := fun i => by
        by_cases hik : i = k
        · subst hik; simp [hkl]
        · simp [hik, Array.getElem?_setIfInBounds_ne (fun e => hik e.symm)]
      have hL' : (fun i => (listed.setIfInBounds k true).getD i false) = fun i => if i = k then true else listed.getD i false := funext hset
      have hstep : stepV G true (compMI P B.gv ks n ow ops o) (Eat (compReg P B.gv ks n ow ops) (es 0) vs (fun i => listed.getD i false) ops.size) (Hat (compReg P B.gv ks n ow ops) hs (fun i => listed.getD i false) ops.size) = some (vs k, Hat (compReg P B.gv ks n ow ops) hs (fun i => (listed.setIfInBounds k true).getD i false) ops.size) := by
        rw [hL']
        have h0 := stepV_mono hread (ht.step k _ hm)
        cases hbl : (compMI P B.gv ks n ow ops o).o.blind with
        | true =>
          have e1 : Hat (compReg P B.gv ks n ow ops) hs (fun i => if i = k then true else listed.getD i false) ops.size = Hat (compReg P B.gv ks n ow ops) hs (fun i => listed.getD i false) ops.size := Hat_congr ops.size (fun i _ h3 => by
            show (if i = k then true else listed.getD i false) = listed.getD i false
            by_cases hik : i = k
            · subst hik
              unfold MI.loudAt at h3
              rw [hmD, blind_low hbl] at h3; cases h3
            · rw [if_neg hik])
          rw [e1]
          exact blind_step hbl h0 _
        | false =>
          have hlow : (compMI P B.gv ks n ow ops o).o.loud = false → Hat (compReg P B.gv ks n ow ops) hs (fun i => if i = k then true else listed.getD i false) ops.size = Hat (compReg P B.gv ks n ow ops) hs (fun i => listed.getD i false) ops.size := fun hlo => Hat_congr ops.size (fun i _ h3 => by
            show (if i = k then true else listed.getD i false) = listed.getD i false
            by_cases hik : i = k
            · subst hik
              unfold MI.loudAt at h3
              rw [hmD, hlo] at h3; cases h3
            · rw [if_neg hik])
          cases hH hbl with
          | inr q =>
            rcases q with ⟨hEk, hlo, hH⟩ | ⟨hlo, p, hp1, hp2, hp3, hH⟩
            · rw [hlow hlo, hH]
              exact stepV_mono hread (hE k (by simpa using hEk) _ hm)
            · rw [hlow hlo, hH]
              exact stepV_mono hread (hF k p hp1 hp2 hp3 _ hm)
          | inl hH =>
            cases hlo : (compMI P B.gv ks n ow ops o).o.loud with
            | false =>
              rw [hlow hlo, hH]
              have hq := quiet k hkN (by unfold MI.loudAt; rw [hmD]; exact hlo)
              rw [hq] at h0
              exact h0
            | true =>
              rw [hH]
              have e1 : Hat (compReg P B.gv ks n ow ops) hs (fun i => if i = k then true else listed.getD i false) ops.size = Hat (compReg P B.gv ks n ow ops) hs (fun i => if i = k then true else listed.getD i false) (k + 1) := by
                have := Hat_up (mis := compReg P B.gv ks n ow ops) (hs := hs) (L := fun i => if i = k then true else listed.getD i false) (k := k + 1) (ops.size - (k + 1)) (fun i h1 h2 h3 => by
                  show (if i = k then true else listed.getD i false) = false
                  rw [if_neg (by omega)]
                  exact hnone hlo i (by omega) (by omega) h3)
                rw [show k + 1 + (ops.size - (k + 1)) = ops.size by omega] at this
                exact this
              rw [e1, Hat_all (k + 1) (fun i hi h3 => by
                show (if i = k then true else listed.getD i false) = true
                by_cases hik : i = k
                · rw [if_pos hik]
                · rw [if_neg hik]
                  rcases (chk k hkN).2 i (by omega) with h4 | ⟨_, h4⟩
                  · exact hanc i h4
                  · rcases (apart2 i k (by omega) hkN h4).1 h3 with h5 | h5
                    · rw [hmD, hbl] at h5; cases h5
                    · rw [hmD, hlo] at h5; cases h5.2.1) (fun i hi => quiet i (by omega))]
              exact h0
      have hnbk := hnb k o (by simpa using ho)
      obtain ⟨c1, c2, c3⟩ := compMI_dst hnbk
      refine step_sound hG hinv hrel ho hstep (fun u D w' k1 k2 k3 k4 => ?_)
      refine ih (listed.setIfInBounds k true) D (a.put o.dst u) w' (by simp [hsize]) (fun j oj hoj hj i hi => ?_) ?_ (hle.trans k1) (hbw.trans k4) ?_ ?_ (by rw [put_size']; exact htm) (by rw [put_defers']; exact hdf)
      · simp only [hset] at hj ⊢
        by_cases hik : i = k
        · simp [hik]
        · rw [if_neg hik]
          by_cases hjk : j = k
          · subst hjk
            have : oj = o := by
              have h1 : ops[j]? = some oj := by simpa using hoj
              rw [ho] at h1; injection h1 with h1; exact h1.symm
            subst this; exact hdir i hi
          · rw [if_neg hjk] at hj; exact hshut j oj hoj hj i hi
      · have := filter_less (p := fun i => !listed.getD i false) (q := fun i => !(listed.setIfInBounds k true).getD i false) (fun i hi => by
          rw [hset] at hi
          split at hi
          · cases hi
          · exact hi) (List.mem_range.2 hkN) (by rw [hun']; rfl) (by rw [hset, if_pos rfl]; rfl)
        unfold undone at hcnt ⊢
        dsimp only at hcnt ⊢
        omega
      · -- the heap behind it
        exact k2
      · -- the temporaries behind it
        rw [hL']
        refine (hrel.mono k1).put k3 (fun t htd => Nat.lt_of_lt_of_le (c3 t htd) htm) (fun t x hx => ?_)
        by_cases htd : o.dst = some t
        · left
          refine ⟨htd, ?_⟩
          have e2 := Eat_up (mis := compReg P B.gv ks n ow ops) (e0 := es 0) (vs := vs) (L := fun i => if i = k then true else listed.getD i false) (t := t) (k := k + 1) (ops.size - (k + 1)) (fun i h1 h2 h3 => by
            show (if i = k then true else listed.getD i false) = false
            rw [if_neg (by omega)]
            have hoi : ops[i]? = some ops[i] := by simp [show i < ops.size by omega]
            rcases (chk i (by omega)).2 k (by omega) with h4 | ⟨h4, _⟩
            · exact later i (by omega) (by omega) h4
            · exfalso
              rw [hmD, hmgetD i _ hoi] at h4
              have h5 : (compMI P B.gv ks n ow ops ops[i]).dst = some t := by simpa [MI.dstAt, hmget i _ hoi] using h3
              have h7 : (compMI P B.gv ks n ow ops o).dst = some t := by rw [c1]; exact htd
              simp [MI.apart, h5, h7] at h4)
          rw [show k + 1 + (ops.size - (k + 1)) = ops.size by omega] at e2
          rw [e2] at hx
          simp only [Eat] at hx
          rw [if_pos ⟨by simp, by simp only [MI.dstAt, hm, Option.bind_some]; rw [c1]; exact htd⟩] at hx
          injection hx with hx; exact hx.symm
        · right
          refine ⟨htd, ?_⟩
          rw [← hx]
          refine (Eat_congr ops.size (fun i hi h3 => ?_)).symm
          show (if i = k then true else listed.getD i false) = listed.getD i false
          rw [if_neg (fun e => htd (by subst e; simpa [MI.dstAt, hm, c1] using h3))]

theorem region_sound_draw {ro : Option Nat} (hm : P.follows .mixedOrders = true) (hG : GamB P B G) {ks ow : List Nat} {n id : Nat} {ops : Array Oper} {Q : Exit → Act → World → Prop} {env fr env' fr' : List (Nat × AV)} {h' : Heap} (hst : StOK ks n B C env fr h a w)
    (hok : drawOK ops.toList (compReg P B.gv ks n ow ops) = true) (hrun : run G true (compReg P B.gv ks n ow ops) (.ok env fr h) = .ok env' fr' h')
    (hQ : ∀ D a' w', C.Le D → StOK ks n B D env' fr' h' a' w' → a'.defers = a.defers → Keep B w w' → Q .normal a' w') : (Code.region id ops true).wpIn (fR ro) 0 P Q a w := by
  obtain ⟨es, hs, vs, ht, e1, e2, e3, e4, e5, e6⟩ := trace_of ops.toList env fr h hst.sep hrun
  have hb : Below w.heap.size w { w with drawn := w.drawn + 1 } := below_drew w
  refine wpIn_region_any hm (any_sound (E := []) (F := []) (B := B) (d := a.defers) (w0 := w) (C0 := C) hG hok (fun k hk => by cases hk) (fun k p hk => by simp at hk) ht e6 (fun D a' w' k1 k2 k3 k4 k5 k6 => hQ D a' w' k1 ⟨?_, ?_, e5.1, e5.2 hst.keys, k4⟩ k5 k6) ops.size _ C a _ (by simp) (fun j o _ hj => ?_) ?_ (.refl C) (below_of hst.inv hb) ?_ ?_ hst.size rfl)
  · rw [← e4]; simpa using k2
  · rw [← e3]; simpa using k3
  · simp only [getD_replicate_false] at hj; cases hj
  · unfold undone; exact Nat.le_trans (List.length_filter_le _ _) (by simp)
  · have : Hat (compReg P B.gv ks n ow ops) hs (fun i => (Array.replicate ops.size false).getD i false) ops.size = hs 0 := by
      have := Hat_up (mis := compReg P B.gv ks n ow ops) (hs := hs) (L := fun i => (Array.replicate ops.size false).getD i false) (k := 0) ops.size (fun i _ _ _ => getD_replicate_false _ _)
      simpa [Hat] using this
    rw [this, e2]; exact hst.inv.grow hb
  · intro t x hx
    have : Eat (compReg P B.gv ks n ow ops) (es 0) vs (fun i => (Array.replicate ops.size false).getD i false) ops.size t = es 0 t := by
      have := Eat_up (mis := compReg P B.gv ks n ow ops) (e0 := es 0) (vs := vs) (L := fun i => (Array.replicate ops.size false).getD i false) (t := t) (k := 0) ops.size (fun i _ _ _ => getD_replicate_false _ _)
      simpa [Eat] using this
    rw [this, e1] at hx
    exact hst.rel t x hx

end
end Go.Proofs.YtmjdgpiofhildaaGreatDoor

namespace Go.Proofs.YtmjdgpiofhildaaGreatDoor
open Go.RowKit

/-- An operation of such a region: may it come ahead; behind which later places may it come (counted from the next one on). -/
abbrev ME := Bool × List Nat × MI

def flagE (E : List Nat) (F : List (Nat × Nat)) : Nat → List MI → List ME
  | _, [] => []
  | k, m :: ms => (E.contains k, (F.filter fun q => decide (q.1 = k)).map (fun q => q.2 - k - 1), m) :: flagE E F (k + 1) ms

/-- What is still to be seen, at heaps to come. -/
abbrev Pend := List (Nat × (Heap → Prop))
def pdDue (h : Heap) : Pend → Prop
  | [] => True
  | (0, c) :: r => c h ∧ pdDue h r
  | (_ + 1, _) :: r => pdDue h r
def pdNext : Pend → Pend
  | [] => []
  | (0, _) :: r => pdNext r
  | (n + 1, c) :: r => (n, c) :: pdNext r
def pdNew (G : Gam) (m : MI) (env fr : List (Nat × AV)) (v : AV) : List Nat → Pend
  | [] => []
  | d :: r => (d, fun h => stepV G true m (getT env fr) h = some (v, h)) :: pdNew G m env fr v r

def runP (G : Gam) (h0 : Heap) : List ME → (List (Nat × AV) → List (Nat × AV) → Heap → Prop) → Pend → List (Nat × AV) → List (Nat × AV) → Heap → Prop
  | [], Q, pd, env, fr, h => pdDue h pd ∧ Q env fr h
  | (e, ls, m) :: is, Q, pd, env, fr, h => pdDue h pd ∧ match stepV G true m (getT env fr) h with
    | none => False
    | some (v, h') => (e = true → stepV G true m (getT env fr) h0 = some (v, h0)) ∧ (match m.dst with
      | none => runP G h0 is Q (pdNew G m env fr v ls ++ pdNext pd) env fr h'
      | some t => if m.kept then runP G h0 is Q (pdNew G m env fr v ls ++ pdNext pd) env (upd t v fr) h' else runP G h0 is Q (pdNew G m env fr v ls ++ pdNext pd) ((t, v) :: env) fr h')

theorem pdDue_mem {h : Heap} : ∀ {pd : Pend} {c : Heap → Prop}, pdDue h pd → (0, c) ∈ pd → c h
  | [], _, _, hm => by cases hm
  | (0, c') :: r, c, hd, hm => by
    rcases List.mem_cons.1 hm with e | hm
    · injection e with _ e; subst e; exact hd.1
    · exact pdDue_mem hd.2 hm
  | (n + 1, c') :: r, c, hd, hm => by
    rcases List.mem_cons.1 hm with e | hm
    · injection e with e _; cases e
    · exact pdDue_mem (pd := r) hd hm
theorem pdNext_mem : ∀ {pd : Pend} {d : Nat} {c : Heap → Prop}, (d + 1, c) ∈ pd → (d, c) ∈ pdNext pd
  | [], _, _, hm => by cases hm
  | (0, c') :: r, d, c, hm => by
    rcases List.mem_cons.1 hm with e | hm
    · injection e with e _; cases e
    · exact pdNext_mem (pd := r) hm
  | (n + 1, c') :: r, d, c, hm => by
    rcases List.mem_cons.1 hm with e | hm
    · injection e with e1 e2; injection e1 with e1; subst e1 e2; simp [pdNext]
    · exact List.mem_cons_of_mem _ (pdNext_mem hm)
theorem pdNew_mem {G : Gam} {m : MI} {env fr : List (Nat × AV)} {v : AV} : ∀ {ls : List Nat} {d : Nat}, d ∈ ls → (d, fun h => stepV G true m (getT env fr) h = some (v, h)) ∈ pdNew G m env fr v ls
  | [], _, hm => by cases hm
  | x :: r, d, hm => by
    rcases List.mem_cons.1 hm with rfl | hm
    · exact List.mem_cons_self
    · exact List.mem_cons_of_mem _ (pdNew_mem hm)

section
variable {P : Program} {B : Base} {C D : Cx} {h : Heap} {w w' : World} {G : Gam} {a : Act}

theorem trace_ofP {ks ow : List Nat} {n : Nat} {ops : Array Oper} {E : List Nat} {F : List (Nat × Nat)} {h0 : Heap} {Q : List (Nat × AV) → List (Nat × AV) → Heap → Prop} : ∀ (os : List Oper) (k0 : Nat) (pd : Pend) (env fr : List (Nat × AV)) (h : Heap), Sep ks env →
    runP G h0 (flagE E F k0 (os.map (compMI P B.gv ks n ow ops))) Q pd env fr h →
    ∃ es hs vs env' fr' h', Q env' fr' h' ∧ Trace G (os.map (compMI P B.gv ks n ow ops)) es hs vs ∧ es 0 = getT env fr ∧ hs 0 = h ∧ es os.length = getT env' fr' ∧ hs os.length = h' ∧ (Sep ks env' ∧ (Keys ks fr → Keys ks fr')) ∧
      (∀ (k : Nat) o, os[k]? = some o → compMI P B.gv ks n ow ops o ≠ botMI) ∧ (∀ (k : Nat) m, E.contains (k0 + k) = true → (os.map (compMI P B.gv ks n ow ops))[k]? = some m → stepV G true m (es k) h0 = some (vs k, h0)) ∧
      (∀ d c, (d, c) ∈ pd → d ≤ os.length → c (hs d)) ∧ (∀ (k p : Nat) m, F.contains (k0 + k, k0 + p) = true → k < p → p ≤ os.length → (os.map (compMI P B.gv ks n ow ops))[k]? = some m → stepV G true m (es k) (hs p) = some (vs k, hs p))
  | [], k0, pd, env, fr, h, hsep, hq =>
    ⟨fun _ => getT env fr, fun _ => h, fun _ => .junk, env, fr, h, hq.2, ⟨fun k m hm => by simp at hm, fun k m hm => by simp at hm⟩, rfl, rfl, rfl, rfl, ⟨hsep, id⟩, fun k o hk => by simp at hk, fun k m _ hm => by simp at hm, fun d c hm hd => (by
      have : d = 0 := by simpa using hd
      subst this; exact pdDue_mem hq.1 hm), fun k p m _ _ _ hm => by simp at hm⟩
  | o :: os, k0, pd, env, fr, h, hsep, hq => by
    simp only [List.map_cons, flagE, runP] at hq
    obtain ⟨hdue, hq⟩ := hq
    cases hs : stepV G true (compMI P B.gv ks n ow ops o) (getT env fr) h with
    | none => simp only [hs] at hq
    | some vh =>
      obtain ⟨v, h1⟩ := vh
      simp only [hs] at hq
      obtain ⟨hearly, hq⟩ := hq
      have hne : compMI P B.gv ks n ow ops o ≠ botMI := fun e1 => by rw [e1, bot_none] at hs; cases hs
      obtain ⟨c1, c2, c3⟩ := compMI_dst hne
      obtain ⟨env1, fr1, hb, hq1⟩ : ∃ env1 fr1, bindR (compMI P B.gv ks n ow ops o).dst (compMI P B.gv ks n ow ops o).kept env fr (some (v, h1)) = .ok env1 fr1 h1 ∧ runP G h0 (flagE E F (k0 + 1) (os.map (compMI P B.gv ks n ow ops))) Q (pdNew G (compMI P B.gv ks n ow ops o) env fr v ((F.filter fun q => decide (q.1 = k0)).map (fun q => q.2 - k0 - 1)) ++ pdNext pd) env1 fr1 h1 := by
        cases hd : (compMI P B.gv ks n ow ops o).dst with
        | none => simp only [hd] at hq; exact ⟨env, fr, rfl, hq⟩
        | some t =>
          simp only [hd] at hq
          cases hk : (compMI P B.gv ks n ow ops o).kept with
          | true => simp only [hk, if_true] at hq; exact ⟨env, upd t v fr, by simp [bindR], hq⟩
          | false => simp only [hk, Bool.false_eq_true, if_false] at hq; exact ⟨(t, v) :: env, fr, by simp [bindR], hq⟩
      obtain ⟨_, hsep1, hk1, hget⟩ := bind_get hsep (by rw [c2, c1]) hb
      obtain ⟨es, hs', vs, env', fr', h', q0, ht, e1, e2, e3, e4, e5, e6, e7, e8, e9⟩ := trace_ofP os (k0 + 1) _ env1 fr1 h1 hsep1 hq1
      refine ⟨fun k => match k with | 0 => getT env fr | k + 1 => es k, fun k => match k with | 0 => h | k + 1 => hs' k, fun k => match k with | 0 => v | k + 1 => vs k, env', fr', h', q0, ⟨fun k m hm => ?_, fun k m hm t x hx => ?_⟩, rfl, rfl, e3, e4, ⟨e5.1, fun hk => e5.2 (hk1 hk)⟩, fun k o' hk => ?_, fun k m hc hm => ?_, fun d c hm hd => ?_, fun k p m hc hkp hp hm => ?_⟩
      · cases k with
        | zero => simp at hm; subst hm; show _ = some (v, hs' 0); rw [e2]; exact hs
        | succ k => exact ht.step k m (by simpa using hm)
      · cases k with
        | zero => simp at hm; subst hm; have hx' : es 0 t = some x := hx; rw [e1] at hx'; exact hget t x hx'
        | succ k => exact ht.put k m (by simpa using hm) t x hx
      · cases k with
        | zero => simp at hk; subst hk; exact hne
        | succ k => exact e6 k o' (by simpa using hk)
      · cases k with
        | zero => simp at hm; subst hm; exact hearly hc
        | succ k => exact e7 k m (by rw [show k0 + 1 + k = k0 + (k + 1) by omega]; exact hc) (by simpa using hm)
      · cases d with
        | zero => exact pdDue_mem hdue hm
        | succ d => exact e8 d c (List.mem_append_right _ (pdNext_mem hm)) (by simpa using hd)
      · cases p with
        | zero => omega
        | succ p =>
          cases k with
          | zero =>
            simp at hm; subst hm
            have hc' : (k0, k0 + (p + 1)) ∈ F := by simpa using hc
            exact e8 p _ (List.mem_append_left _ (pdNew_mem (List.mem_map.2 ⟨(k0, k0 + (p + 1)), List.mem_filter.2 ⟨hc', by simp⟩, by simp⟩))) (by simpa using hp)
          | succ k => exact e9 k p m (by rw [show k0 + 1 + k = k0 + (k + 1) by omega, show k0 + 1 + p = k0 + (p + 1) by omega]; exact hc) (by omega) (by simpa using hp) (by simpa using hm)

theorem region_sound_early {ro : Option Nat} (hm : P.follows .mixedOrders = true) (hG : GamB P B G) {ks ow : List Nat} {n id : Nat} {E : List Nat} {F : List (Nat × Nat)} {ops : Array Oper} {Q : Exit → Act → World → Prop} {K : List (Nat × AV) → List (Nat × AV) → Heap → Prop} {env fr : List (Nat × AV)} (hst : StOK ks n B C env fr h a w)
    (hok : drawOKE E F ops.toList (compReg P B.gv ks n ow ops) = true) (hrun : runP G h (flagE E F 0 (compReg P B.gv ks n ow ops)) K [] env fr h)
    (hQ : ∀ env' fr' h' D a' w', K env' fr' h' → C.Le D → StOK ks n B D env' fr' h' a' w' → a'.defers = a.defers → Keep B w w' → Q .normal a' w') : (Code.region id ops true).wpIn (fR ro) 0 P Q a w := by
  obtain ⟨es, hs, vs, env', fr', h', q0, ht, e1, e2, e3, e4, e5, e6, e7, e8, e9⟩ := trace_ofP (E := E) (F := F) (h0 := h) ops.toList 0 [] env fr h hst.sep hrun
  have hb : Below w.heap.size w { w with drawn := w.drawn + 1 } := below_drew w
  refine wpIn_region_any hm (any_sound (E := E) (F := F) (B := B) (d := a.defers) (w0 := w) (C0 := C) hG hok (fun k hk m hmk => by rw [e2]; exact e7 k m (by simpa using hk) hmk) (fun k p hc hkp hp m hmk => e9 k p m (by simpa using hc) hkp (by simpa using hp) hmk) ht e6 (fun D a' w' k1 k2 k3 k4 k5 k6 => hQ env' fr' h' D a' w' q0 k1 ⟨?_, ?_, e5.1, e5.2 hst.keys, k4⟩ k5 k6) ops.size _ C a _ (by simp) (fun j o _ hj => ?_) ?_ (.refl C) (below_of hst.inv hb) ?_ ?_ hst.size rfl)
  · rw [← e4]; simpa using k2
  · rw [← e3]; simpa using k3
  · simp only [getD_replicate_false] at hj; cases hj
  · unfold undone; exact Nat.le_trans (List.length_filter_le _ _) (by simp)
  · have : Hat (compReg P B.gv ks n ow ops) hs (fun i => (Array.replicate ops.size false).getD i false) ops.size = hs 0 := by
      have := Hat_up (mis := compReg P B.gv ks n ow ops) (hs := hs) (L := fun i => (Array.replicate ops.size false).getD i false) (k := 0) ops.size (fun i _ _ _ => getD_replicate_false _ _)
      simpa [Hat] using this
    rw [this, e2]; exact hst.inv.grow hb
  · intro t x hx
    have : Eat (compReg P B.gv ks n ow ops) (es 0) vs (fun i => (Array.replicate ops.size false).getD i false) ops.size t = es 0 t := by
      have := Eat_up (mis := compReg P B.gv ks n ow ops) (e0 := es 0) (vs := vs) (L := fun i => (Array.replicate ops.size false).getD i false) (t := t) (k := 0) ops.size (fun i _ _ _ => getD_replicate_false _ _)
      simpa [Eat] using this
    rw [this, e1] at hx
    exact hst.rel t x hx

end
end Go.Proofs.YtmjdgpiofhildaaGreatDoor
