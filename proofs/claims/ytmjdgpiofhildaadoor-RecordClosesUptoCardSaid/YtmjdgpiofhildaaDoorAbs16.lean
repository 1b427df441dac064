/- A region: how it is resolved, one operation in a frame, regions in the order of the text. -/
import Derived.Test.YtmjdgpiofhildaaDoorAbs15
import Derived.Orders
namespace Go.Proofs.YtmjdgpiofhildaaDoor
open Go.RowKit

def botMI : MI := ⟨none, none, false, .bot, []⟩

/-- An operation of a region, resolved: ks: the temporaries that are kept; n: how many there are; ow: those that hold slices which are written to. -/
def compMI (P : Program) (gv : Nat → Option (List AV)) (ks : List Nat) (n : Nat) (ow : List Nat) (ops : Array Oper) (o : Oper) : MI :=
  match compOp P ((o.dst.map fun t => ow.contains t).getD false) o with
  | some (ao, xs) => match compAts gv xs with
    | some ats =>
      if (o.dst.map fun t => decide (t < n)).getD true then
        match o.guard with
        | none => ⟨none, o.dst, (o.dst.map fun t => ks.contains t).getD false, ao, ats⟩
        | some (j, b) => match (ops[j]?).bind (·.dst) with
          | some t => ⟨some (t, b), o.dst, (o.dst.map fun t => ks.contains t).getD false, ao, ats⟩
          | none => botMI
      else botMI
    | none => botMI
  | none => botMI

def compReg (P : Program) (gv : Nat → Option (List AV)) (ks : List Nat) (n : Nat) (ow : List Nat) (ops : Array Oper) : List MI := ops.toList.map (compMI P gv ks n ow ops)

/-- What the temporaries hold. -/
def RelT (C : Cx) (e : Nat → Option AV) (a : Act) : Prop := ∀ t x, e t = some x → ∃ u, a.tmps[t]? = some u ∧ Rel C x u

section
variable {P : Program} {B : Base} {C D : Cx} {h : Heap} {w w' : World} {G : Gam} {a : Act}

theorem RelT.mono {e : Nat → Option AV} (h : RelT C e a) (hl : C.Le D) : RelT D e a := fun t x hx => let ⟨u, h1, h2⟩ := h t x hx; ⟨u, h1, h2.mono hl⟩

theorem eval_at_rel (hi : Inv B C h w) {e : Nat → Option AV} (hr : RelT C e a) {x : Operand} {at_ : At} {v : AV} (hc : compAt B.gv x = some at_) (hv : getA e at_ = some v) : Rel C v (a.eval x) := by
  cases x with
  | tmp t =>
    simp only [compAt, Option.some.injEq] at hc; subst hc
    obtain ⟨u, h1, h2⟩ := hr t v hv
    have : a.eval (.tmp t) = u := by simp [Act.eval, h1]
    rw [this]; exact h2
  | const k =>
    simp only [compAt, Option.map_eq_some_iff] at hc
    obtain ⟨c, h1, rfl⟩ := hc
    simp only [getA, Option.some.injEq] at hv; subst hv
    exact ofValue_rel h1
  | global g =>
    simp only [compAt, Option.map_eq_some_iff] at hc
    obtain ⟨r, hg, rfl⟩ := hc
    simp only [getA, Option.some.injEq] at hv; subst hv
    exact (hi.gl g r hg).mono C.frozen_le
  | func f =>
    simp only [compAt, Option.some.injEq] at hc; subst hc
    simp only [getA, Option.some.injEq] at hv; subst hv
    exact .fn f [] #[] rfl (fun i c v hc => by simp at hc)

theorem eval_ats_rel (hi : Inv B C h w) {e : Nat → Option AV} (hr : RelT C e a) : ∀ {xs : List Operand} {ats : List At} {vs : List AV}, compAts B.gv xs = some ats → getAs e ats = some vs → RelL C vs (xs.map a.eval)
  | [], ats, vs, hc, hv => by simp [compAts] at hc; subst hc; simp [getAs] at hv; subst hv; exact .nil
  | x :: xs, ats, vs, hc, hv => by
    simp only [compAts] at hc
    split at hc
    · rename_i at_ ats' h1 h2
      injection hc with hc; subst hc
      simp only [getAs] at hv
      split at hv
      · rename_i v vs' h3 h4
        injection hv with hv; subst hv
        exact .cons (eval_at_rel hi hr h1 h3) (eval_ats_rel hi hr h2 h4)
      · cases hv
    · cases hc

theorem evalStill_all {o : AO} {vs : List AV} {v : AV} (he : evalStill G h o vs = some v) : evalAO G h o vs = some (v, h) := by
  unfold evalStill at he
  split at he
  · rename_i hq
    simp only [evalAO, hq, if_true, he]
  · rename_i hq
    have hq' : o.quiet = false := by simpa using hq
    simp only [evalAO, hq', Bool.false_eq_true, if_false]
    split at he
    · rename_i f
      split at he
      · rename_i F hf
        split at he
        · rename_i us hus
          split at he
          · rename_i r hr
            simp only [evalEff, callAV, hf, hus, hr]
            split at he
            · rename_i hs; injection he with he; subst he; simp [hs]
            · rename_i hs
              split at he
              · rename_i ho; injection he with he; subst he; simp [hs, ho, freezeAll]
              · cases he
          · cases he
        · cases he
      · cases he
    · rename_i size
      split at he
      · rename_i ho
        split at he
        · rename_i us hus
          split at he
          · rename_i hc
            injection he with he; subst he
            simp only [evalEff, frzL, hus, Option.map_some, ho, freezeAll]
            rw [if_pos hc]; rfl
          · cases he
        · cases he
      · cases he
    · cases he

/-- What a step yields, it yields of what its temporaries hold. -/
theorem bot_none (s : Bool) (e : Nat → Option AV) : stepV G s botMI e h = none := by
  cases s <;> simp [stepV, botMI, getAs, AO.loud, AO.quiet, evalAO, evalPure, evalStill]

theorem put_size' (a : Act) (d : Option Nat) (u : Value) : (a.put d u).tmps.size = a.tmps.size := by
  cases d <;> simp [Act.put]
theorem put_defers' (a : Act) (d : Option Nat) (u : Value) : (a.put d u).defers = a.defers := by
  cases d <;> rfl

/-- An operation comes up. -/
theorem step_sound (hG : GamOK P B.gv G) (hi : Inv B C h w) {e : Nat → Option AV} (hr : RelT C e a) {ks ow : List Nat} {n : Nat} {ops : Array Oper} {k : Nat} {o : Oper} (ho : ops[k]? = some o) {s : Bool} {v : AV} {h' : Heap}
    (hs : stepV G s (compMI P B.gv ks n ow ops o) e h = some (v, h')) {Q : Exit → Act → World → Prop} {K : Act → World → Prop}
    (hK : ∀ u D w', C.Le D → Inv B D h' w' → Rel D v u → Below B w w' → K (a.put o.dst u) w') : wpOp P ops Q k K a w := by
  unfold wpOp
  simp only [ho]
  have notbot : compMI P B.gv ks n ow ops o ≠ botMI := fun e1 => by rw [e1, bot_none] at hs; cases hs
  unfold compMI at hs notbot
  split at hs
  · rename_i ao xs hco
    split at hs
    · rename_i ats hats
      split at hs
      · rename_i hd
        -- the operation itself, wanted
        have go : (match getAs e ats with
            | some vs => if s && !ao.loud then (evalStill G h ao vs).map fun v => (v, h) else evalAO G h ao vs
            | none => none) = some (v, h') → o.wp P a w K Q := by
          intro hm
          split at hm
          · rename_i vs hvs
            have hev : evalAO G h ao vs = some (v, h') := by
              split at hm
              · simp only [Option.map_eq_some_iff, Prod.mk.injEq] at hm
                obtain ⟨v', h1, rfl, rfl⟩ := hm
                exact evalStill_all h1
              · exact hm
            have hc := op_sound hG hi hco (ρ := a.eval) (fun _ => rfl) (fun _ => rfl) (eval_ats_rel hi hr hats hvs) hev
            unfold Oper.wp
            generalize (execOp a.eval o).run P w = res at hc
            cases res with
            | halt x w' => exact hc.elim
            | ok nx w' =>
              cases nx with
              | value u => obtain ⟨D, k1, k2, k3, k4⟩ := hc; exact hK u D w' k1 k2 k3 k4
              | skip => obtain ⟨D, k1, k2, k3, k4⟩ := hc; exact hK _ D w' k1 k2 k3 k4
              | enter f args =>
                refine Calls.mono hc fun e w'' hk => ?_
                obtain ⟨u, rfl, D, k1, k2, k3, k4⟩ := hk
                exact hK u D w'' k1 k2 k3 k4
              | _ => exact hc.elim
          · cases hm
        have undef_rel : Rel C skipped undef := .tup [] #[] rfl (fun i c v hc => by simp at hc)
        split at hs
        · rename_i hg
          have hw : Region.wanted o (yielded ops a.tmps) = true := by simp [Region.wanted, hg]
          rw [if_pos hw]
          exact .inl (go hs)
        · rename_i j b hg
          split at hs
          · rename_i t ht
            simp only [stepV] at hs
            split at hs
            · rename_i b' hb'
              obtain ⟨u, hu1, hu2⟩ := hr t _ hb'
              have := bool_inv hu2; subst this
              have hy : yielded ops a.tmps j = some b' := by simp [yielded, ht, hu1]
              split at hs
              · rename_i hbb
                rw [if_pos (by simp [Region.wanted, hg, hy, hbb])]
                exact .inl (go hs)
              · rename_i hbb
                rw [if_neg (by simp [Region.wanted, hg, hy, hbb])]
                simp only [Option.some.injEq, Prod.mk.injEq] at hs; obtain ⟨rfl, rfl⟩ := hs
                exact hK undef C w (.refl C) hi undef_rel (Below.refl _ _)
            · rename_i hb'
              obtain ⟨u, hu1, hu2⟩ := hr t _ hb'
              have hy : yielded ops a.tmps j = none := by
                cases hu2
                simp [yielded, ht, hu1]
              rw [if_neg (by simp [Region.wanted, hg, hy])]
              simp only [Option.some.injEq, Prod.mk.injEq] at hs; obtain ⟨rfl, rfl⟩ := hs
              exact hK undef C w (.refl C) hi undef_rel (Below.refl _ _)
            · cases hs
          · rw [bot_none] at hs; cases hs
      · rw [bot_none] at hs; cases hs
    · rw [bot_none] at hs; cases hs
  · rw [bot_none] at hs; cases hs

/-- The resolved operation's temporary is the operation's. -/
theorem compMI_dst {ks ow : List Nat} {n : Nat} {ops : Array Oper} {o : Oper} (hne : compMI P B.gv ks n ow ops o ≠ botMI) :
    (compMI P B.gv ks n ow ops o).dst = o.dst ∧ (compMI P B.gv ks n ow ops o).kept = (o.dst.map fun t => ks.contains t).getD false ∧ (∀ t, o.dst = some t → t < n) := by
  unfold compMI at hne ⊢
  split at hne
  · split at hne
    · split at hne
      · rename_i hd
        have hd' : ∀ t, o.dst = some t → t < n := fun t ht => by simpa [ht] using hd
        rw [if_pos hd]
        split at hne
        · exact ⟨rfl, rfl, hd'⟩
        · split at hne
          · exact ⟨rfl, rfl, hd'⟩
          · exact absurd rfl hne
      · exact absurd rfl hne
    · exact absurd rfl hne
  · exact absurd rfl hne

/-- Temporaries of the region are none that is kept. -/
def Sep (ks : List Nat) (env : List (Nat × AV)) : Prop := ∀ t v, lkp t env = some v → ks.contains t = false

/-- What is kept is among the temporaries that are kept. -/
def Keys (ks : List Nat) (fr : List (Nat × AV)) : Prop := ∀ t v, lkp t fr = some v → ks.contains t = true

theorem lkp_upd (t : Nat) (v : AV) : ∀ (l : List (Nat × AV)) (k : Nat), lkp k (upd t v l) = if k = t then (lkp k l).map (fun _ => v) else lkp k l
  | [], k => by simp [upd, lkp]
  | (k', x) :: r, k => by
    simp only [upd]
    by_cases h1 : t = k'
    · subst h1
      simp only [if_true, lkp]
      by_cases h2 : k = t
      · simp [h2]
      · simp [h2]
    · simp only [if_neg h1, lkp, lkp_upd t v r k]
      by_cases h2 : k = k'
      · subst h2
        simp only [if_true]
        rw [if_neg (fun e => h1 e.symm)]
      · simp only [if_neg h2]

/-- What is known behind an operation. -/
theorem bind_get {ks : List Nat} {env fr env' fr' : List (Nat × AV)} {dst : Option Nat} {kept : Bool} {v : AV} {h h' : Heap} (hsep : Sep ks env) (hk : kept = (dst.map fun t => ks.contains t).getD false)
    (hb : bindR dst kept env fr (some (v, h)) = .ok env' fr' h') : h' = h ∧ Sep ks env' ∧ (Keys ks fr → Keys ks fr') ∧ ∀ t x, getT env' fr' t = some x → (dst = some t ∧ x = v) ∨ (dst ≠ some t ∧ getT env fr t = some x) := by
  unfold bindR at hb
  cases dst with
  | none =>
    simp only [R.ok.injEq] at hb; obtain ⟨rfl, rfl, rfl⟩ := hb
    exact ⟨rfl, hsep, id, fun t x hx => .inr ⟨by simp, hx⟩⟩
  | some d =>
    simp only [Option.map_some, Option.getD_some] at hk
    simp only at hb
    split at hb
    · rename_i hkt
      simp only [R.ok.injEq] at hb; obtain ⟨rfl, rfl, rfl⟩ := hb
      refine ⟨rfl, hsep, fun hks t x hx => ?_, fun t x hx => ?_⟩
      · rw [lkp_upd] at hx
        split at hx
        · rename_i e; subst e
          simp only [Option.map_eq_some_iff] at hx
          obtain ⟨y, hy, _⟩ := hx
          exact hks t y hy
        · exact hks t x hx
      by_cases htd : t = d
      · subst htd
        left
        have hn : lkp t env = none := by
          cases hl : lkp t env with
          | none => rfl
          | some y => have := hsep t y hl; rw [← hk, hkt] at this; cases this
        simp only [getT, hn, lkp_upd, if_true, Option.map_eq_some_iff] at hx
        obtain ⟨_, _, rfl⟩ := hx
        exact ⟨rfl, rfl⟩
      · right
        refine ⟨fun e => htd (by injection e with e; exact e.symm), ?_⟩
        simpa only [getT, lkp_upd, if_neg htd] using hx
    · rename_i hkt
      simp only [R.ok.injEq] at hb; obtain ⟨rfl, rfl, rfl⟩ := hb
      refine ⟨rfl, fun t x hx => ?_, id, fun t x hx => ?_⟩
      · simp only [lkp] at hx
        split at hx
        · rename_i e; subst e; rw [← hk]; simpa using hkt
        · exact hsep t x hx
      · by_cases htd : t = d
        · subst htd
          left; simp only [getT, lkp, if_true, Option.some.injEq] at hx; exact ⟨rfl, hx.symm⟩
        · right
          refine ⟨fun e => htd (by injection e with e; exact e.symm), ?_⟩
          simpa only [getT, lkp, if_neg htd] using hx

theorem RelT.put {e e' : Nat → Option AV} (hr : RelT C e a) {dst : Option Nat} {v : AV} {u : Value} (hu : Rel C v u) (hd : ∀ t, dst = some t → t < a.tmps.size) (he : ∀ t x, e' t = some x → (dst = some t ∧ x = v) ∨ (dst ≠ some t ∧ e t = some x)) : RelT C e' (a.put dst u) := by
  intro t x hx
  rcases he t x hx with ⟨h1, rfl⟩ | ⟨h1, h2⟩
  · subst h1
    exact ⟨u, by simp [Act.put, hd t rfl], hu⟩
  · obtain ⟨y, h3, h4⟩ := hr t x h2
    refine ⟨y, ?_, h4⟩
    cases dst with
    | none => exact h3
    | some d =>
      simp only [Act.put]
      rw [Array.getElem?_setIfInBounds_ne (fun e => h1 (by rw [e]))]
      exact h3

/-- The state of a frame between operations. -/
structure StOK (ks : List Nat) (n : Nat) (B : Base) (C : Cx) (env fr : List (Nat × AV)) (h : Heap) (a : Act) (w : World) : Prop where
  inv : Inv B C h w
  rel : RelT C (getT env fr) a
  sep : Sep ks env
  keys : Keys ks fr
  size : n ≤ a.tmps.size

theorem run_bad (G : Gam) (s : Bool) : ∀ is : List MI, run G s is .bad = .bad
  | [] => rfl
  | i :: is => by simp only [run, evalI]; exact run_bad G s is

/-- Regions in the order of the text. -/
theorem list_sound (hG : GamOK P B.gv G) {ks ow : List Nat} {n : Nat} {ops : Array Oper} {s : Bool} {Q : Exit → Act → World → Prop} {d : List Deferred} {w0 : World} {C0 : Cx} {env' fr' : List (Nat × AV)} {h' : Heap} :
    ∀ (l : List Nat) (os : List Oper) (env fr : List (Nat × AV)) (h : Heap) (C : Cx) (a : Act) (w : World), l.map (fun i => ops[i]?) = os.map some → StOK ks n B C env fr h a w → a.defers = d → C0.Le C → Below B w0 w →
      run G s (os.map (compMI P B.gv ks n ow ops)) (.ok env fr h) = .ok env' fr' h' →
      (∀ D a' w', C0.Le D → StOK ks n B D env' fr' h' a' w' → a'.defers = d → Below B w0 w' → Q .normal a' w') → wpOps P ops Q l a w
  | [], os, env, fr, h, C, a, w, hl, hst, hd, hle, hbw, hrun, hQ => by
    cases os with
    | nil =>
      simp only [List.map_nil, run, R.ok.injEq] at hrun; obtain ⟨rfl, rfl, rfl⟩ := hrun
      exact hQ C a w hle hst hd hbw
    | cons _ _ => simp at hl
  | i :: l, os, env, fr, h, C, a, w, hl, hst, hd, hle, hbw, hrun, hQ => by
    cases os with
    | nil => simp at hl
    | cons o os =>
      simp only [List.map_cons, List.cons.injEq] at hl
      obtain ⟨ho, hl⟩ := hl
      rw [wpOps_cons]
      simp only [List.map_cons, run, evalI] at hrun
      cases hs : stepV G s (compMI P B.gv ks n ow ops o) (getT env fr) h with
      | none => rw [hs] at hrun; simp only [bindR, run_bad] at hrun; cases hrun
      | some vh =>
        obtain ⟨v, h1⟩ := vh
        rw [hs] at hrun
        have hne : compMI P B.gv ks n ow ops o ≠ botMI := fun e1 => by rw [e1, bot_none] at hs; cases hs
        obtain ⟨c1, c2, c3⟩ := compMI_dst hne
        rw [c1, c2] at hrun
        generalize hb : bindR o.dst ((o.dst.map fun t => ks.contains t).getD false) env fr (some (v, h1)) = r1 at hrun
        cases r1 with
        | bad => rw [run_bad] at hrun; cases hrun
        | ok env1 fr1 h2 =>
          obtain ⟨rfl, hsep, hkeys, hget⟩ := bind_get hst.sep rfl hb
          refine step_sound hG hst.inv hst.rel ho hs (fun u D w' k1 k2 k3 k4 => ?_)
          exact list_sound hG l os env1 fr1 h2 D (a.put o.dst u) w' hl
            ⟨k2, (hst.rel.mono k1).put k3 (fun t ht => Nat.lt_of_lt_of_le (c3 t ht) hst.size) hget, hsep, hkeys hst.keys, by rw [put_size']; exact hst.size⟩ (by rw [put_defers']; exact hd) (hle.trans k1) (hbw.trans k4) hrun hQ

theorem range_get (ops : Array Oper) : (List.range ops.size).map (fun i => ops[i]?) = ops.toList.map some := by
  apply List.ext_getElem?
  intro i
  by_cases hi : i < ops.size
  · simp [hi]
  · rw [List.getElem?_eq_none (by simp; omega), List.getElem?_eq_none (by simp; omega)]

theorem region_sound (hG : GamOK P B.gv G) {ks ow : List Nat} {n id : Nat} {ops : Array Oper} {Q : Exit → Act → World → Prop} {env fr env' fr' : List (Nat × AV)} {h' : Heap} (hst : StOK ks n B C env fr h a w)
    (hrun : run G false (compReg P B.gv ks n ow ops) (.ok env fr h) = .ok env' fr' h')
    (hQ : ∀ D a' w', C.Le D → StOK ks n B D env' fr' h' a' w' → a'.defers = a.defers → Below B w w' → Q .normal a' w') : (Code.region id ops false).wp P Q a w :=
  wp_region (list_sound hG (List.range ops.size) ops.toList env fr h C a w (range_get ops) hst rfl (.refl C) (Below.refl _ _) hrun hQ)

end
end Go.Proofs.YtmjdgpiofhildaaDoor
