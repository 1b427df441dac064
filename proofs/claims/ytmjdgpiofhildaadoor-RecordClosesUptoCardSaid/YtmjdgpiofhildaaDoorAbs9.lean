/- Places that turn: a store, an append, a map's entry; arrays that are frozen. -/
import Derived.Test.YtmjdgpiofhildaaDoorAbs8
import Derived.Deep.AppendSrc
import Derived.Laws.MakeOwn
namespace Go.Proofs.YtmjdgpiofhildaaDoor
open Go.RowKit
section
variable {P : Program} {B : Base} {C D : Cx} {h : Heap} {w w' : World}

theorem BlkOK.stay {l : Nat} {blk : Blk} (hk : BlkOK B C w l blk) (hle : C.Le D) (hb : ∀ b, blockOf C l blk = some b → w'.heap[b]? = w.heap[b]? ∧ ∀ o, D.im b o = C.im b o) : BlkOK B D w' l blk := by
  have hp := pure_le hle.im
  cases blk with
  | cells vs =>
    obtain ⟨b, cur, e, h1, h2, h3, h4, h5⟩ := hk
    obtain ⟨a1, a2⟩ := hb b (by simp [blockOf, h1])
    exact ⟨b, cur, e, hle.bl _ _ h1, h2, a1.trans h3, fun o => by rw [a2]; exact h4 o, h5.mono hle⟩
  | arr sz ver rows wr =>
    rcases hk with ⟨h1, h2⟩ | ⟨r, cur, h1, h2, h3, h4, h5, h6, h7, h8, h8', h9, h10, h11⟩
    · exact .inl ⟨hle.ar _ _ _ h1, h2⟩
    · obtain ⟨a1, a2⟩ := hb r.block (by simp [blockOf, h1])
      exact .inr ⟨r, cur, hle.ar _ _ _ h1, h2, h3, h4, h5, a1.trans h6, h7, h8.mono hp, h8', fun e o => by rw [a2]; exact h9 e o, fun e j u hj hu => hle.im _ _ _ (h10 e j u hj hu), h11⟩
  | map es =>
    obtain ⟨b, ms, ck, h1, h2, h3, h4, h5⟩ := hk
    obtain ⟨a1, a2⟩ := hb b (by simp [blockOf, h1])
    exact ⟨b, ms, ck, hle.bl _ _ h1, h2, a1.trans h3, h4, fun i k v m x y => ⟨(h5 i k v m x y).1.mono hp, (h5 i k v m x y).2.mono hp⟩⟩
  | iter s pos =>
    obtain ⟨b, h1, h2, h3⟩ := hk
    obtain ⟨a1, a2⟩ := hb b (by simp [blockOf, h1])
    exact ⟨b, hle.bl _ _ h1, h2, a1.trans h3⟩
  | dead => trivial

theorem blockOf_ge {n l b : Nat} {blk : Blk} (hk : BlkOK n C w l blk) (hb : blockOf C l blk = some b) : n ≤ b := by
  cases blk with
  | cells vs =>
    obtain ⟨b', cur, e, h1, h2, h3, _⟩ := hk
    simp only [blockOf, h1, Option.some.injEq] at hb; subst hb; exact h2
  | arr sz ver rows wr =>
    rcases hk with ⟨h1, h2⟩ | ⟨r, cur, h1, h2, _⟩
    · simp [blockOf, h1] at hb
    · simp only [blockOf, h1, Option.some.injEq] at hb; subst hb; exact h2
  | map es =>
    obtain ⟨b', ms, ck, h1, h2, h3, _⟩ := hk
    simp only [blockOf, h1, Option.some.injEq] at hb; subst hb; exact h2
  | iter s pos =>
    obtain ⟨b', h1, h2, h3⟩ := hk
    simp only [blockOf, h1, Option.some.injEq] at hb; subst hb; exact h2
  | dead => simp [blockOf] at hb

/-- One place turns; the others stay. -/
theorem Inv.turn (hi : Inv B C h w) {l : Nat} {blk blk' : Blk} (hl : h[l]? = some blk) (hle : C.Le D) (hsize : w.heap.size ≤ w'.heap.size)
    (hot : ∀ b, blockOf C l blk ≠ some b → b < w.heap.size → w'.heap[b]? = w.heap[b]? ∧ ∀ o, D.im b o = C.im b o)
    (him : ∀ b o u, D.im b o = some u → w'.cell? ⟨b, o, none⟩ = some u) (hone : ∀ b o u, D.im b o = some u → u.oneCell' = true)
    (hok : BlkOK B D w' l blk') (hblk' : ∀ b, blockOf D l blk' = some b → blockOf C l blk = some b ∨ w.heap.size ≤ b)
    (hfr : ∀ k, h.length ≤ k → D.bl k = none ∧ ∀ v, D.ar k v = none)
    (hfv : ∀ (k : Nat) sz ver rows wr, (h.set l blk')[k]? = some (.arr sz ver rows wr) → ∀ v, ver < v → D.ar k v = none) : Inv B D (h.set l blk') w' := by
  have hll : l < h.length := (List.getElem?_eq_some_iff.1 hl).1
  have get : ∀ (k : Nat) x, (h.set l blk')[k]? = some x → (k = l ∧ x = blk') ∨ (k ≠ l ∧ h[k]? = some x) := by
    intro k x hx
    rw [List.getElem?_set] at hx
    by_cases e : l = k
    · subst e; rw [if_pos rfl, if_pos hll] at hx; injection hx with hx; exact .inl ⟨rfl, hx.symm⟩
    · rw [if_neg e] at hx; exact .inr ⟨fun x => e x.symm, hx⟩
  refine ⟨him, hone, fun k x hx => ?_, fun k k' x x' b h1 h2 h3 h4 => ?_, fun k hk => hfr k (by simpa using hk), hfv, Nat.le_trans hi.hB hsize, fun b o u hlt hu => hi.low b o u hlt ?_, fun g r hg => (hi.gl g r hg).mono (pure_le hle.im)⟩
  · rcases get k x hx with ⟨rfl, rfl⟩ | ⟨hne, hx'⟩
    · exact hok
    · refine (hi.ok k x hx').stay hle fun b hb => hot b (fun e => hne (hi.inj k l x blk b hx' hl hb e)) (blockOf_lt (hi.ok k x hx') hb)
  · rcases get k x h1 with ⟨rfl, rfl⟩ | ⟨n1, x1⟩ <;> rcases get k' x' h2 with ⟨rfl, rfl⟩ | ⟨n2, x2⟩
    · rfl
    · rw [blockOf_ext (hi.ok k' x' x2) hle] at h4
      rcases hblk' b h3 with e | e
      · exact hi.inj k k' blk x' b hl x2 e h4
      · have := blockOf_lt (hi.ok k' x' x2) h4; omega
    · rw [blockOf_ext (hi.ok k x x1) hle] at h3
      rcases hblk' b h4 with e | e
      · exact hi.inj k k' x blk b x1 hl h3 e
      · have := blockOf_lt (hi.ok k x x1) h3; omega
    · rw [blockOf_ext (hi.ok k x x1) hle] at h3
      rw [blockOf_ext (hi.ok k' x' x2) hle] at h4
      exact hi.inj k k' x x' b x1 x2 h3 h4
  · rw [← (hot b (fun e => by have := blockOf_ge (hi.ok l blk hl) e; omega) (Nat.lt_of_lt_of_le hlt hi.hB)).2 o]; exact hu

/-! ### Frozen arrays -/
/-- What is frozen of an array's block. -/
def Cx.withRow (C : Cx) (b n : Nat) (cur : Array Value) : Cx := { C with im := fun k o => if k = b ∧ o < n then cur[o]? else C.im k o }

theorem freeze1_inv (hi : Inv B C h w) (l : Nat) :
    ∃ D, C.Le D ∧ Inv B D (freeze1 h l) w ∧ D.bl = C.bl ∧ D.ar = C.ar ∧
      (∀ sz ver rows wr r cur, h[l]? = some (.arr sz ver rows wr) → C.ar l ver = some (some r) → w.heap[r.block]? = some (.cells cur r.elem (0, 0)) → ∀ j, j < rows.length * r.size → D.im r.block j = cur[j]?) := by
  cases hl : h[l]? with
  | none => exact ⟨C, .refl C, by simpa [freeze1, hl] using hi, rfl, rfl, fun sz ver rows wr r cur e => by cases e⟩
  | some blk =>
    cases blk with
    | arr sz ver rows wr =>
      rcases hi.ok l _ hl with ⟨h1, h2⟩ | ⟨r, cur, h1, h2, h3, h4, h5, h6, h7, h8, h8', h9, h10, h11⟩
      · refine ⟨C, .refl C, ?_, rfl, rfl, fun sz' ver' rows' wr' r' cur' e e2 => ?_⟩
        · simp only [freeze1, hl]
          refine hi.turn hl (.refl C) (Nat.le_refl _) (fun _ _ _ => ⟨rfl, fun _ => rfl⟩) hi.im hi.one (.inl ⟨h1, h2⟩) (fun b hb => .inl hb) hi.fr (fun k sz' ver' rows' wr' hk v hv => ?_)
          rw [List.getElem?_set] at hk
          by_cases e : l = k
          · subst e
            rw [if_pos rfl, if_pos (List.getElem?_eq_some_iff.1 hl).1] at hk
            injection hk with hk; injection hk with hk0 hk; subst hk
            exact hi.fv l sz ver rows wr hl v hv
          · rw [if_neg e] at hk; exact hi.fv k sz' ver' rows' wr' hk v hv
        · injection e with e; injection e with e0 e; subst e; rw [h1] at e2; cases e2
      · have hlen : rows.length * r.size ≤ cur.size := by rw [h7]; exact Nat.mul_le_mul_right _ h3
        have hold : ∀ o u, C.im r.block o = some u → cur[o]? = some u := fun o u hu => by
          have := hi.im _ _ _ hu; rwa [cell_of_heap h6] at this
        have hle : C.Le (C.withRow r.block (rows.length * r.size) cur) := ⟨fun b o u hu => by
          simp only [Cx.withRow]; split
          · rename_i e; obtain ⟨rfl, _⟩ := e; exact hold o u hu
          · exact hu, fun _ _ x => x, fun _ _ _ x => x⟩
        refine ⟨C.withRow r.block (rows.length * r.size) cur, hle, ?_, rfl, rfl, fun sz' ver' rows' wr' r' cur' e e2 e3 j hj => ?_⟩
        · simp only [freeze1, hl]
          have hbl : blockOf C l (.arr sz ver rows wr) = some r.block := by simp [blockOf, h1]
          refine hi.turn hl hle (Nat.le_refl _) (fun b hb _ => ⟨rfl, fun o => ?_⟩) (fun b o u hu => ?_) (fun b o u hu => ?_) ?_ (fun b hb => .inl hb) hi.fr (fun k sz' ver' rows' wr' hk v hv => ?_)
          · simp only [Cx.withRow]; rw [if_neg (fun e => hb (by rw [hbl, e.1]))]
          · simp only [Cx.withRow] at hu
            split at hu
            · rename_i e; obtain ⟨rfl, _⟩ := e; rw [cell_of_heap h6]; exact hu
            · exact hi.im _ _ _ hu
          · simp only [Cx.withRow] at hu
            split at hu
            · rename_i e
              refine h8' u (List.mem_of_getElem? (i := o) ?_)
              rw [List.getElem?_take, if_pos e.2]; simpa using hu
            · exact hi.one _ _ _ hu
          · refine .inr ⟨r, cur, h1, h2, h3, h4, h5, h6, h7, h8.mono (pure_le hle.im), h8', (fun e => by cases e), fun _ j u hj hu => ?_, h11⟩
            simp only [Cx.withRow, true_and]; rw [if_pos hj]; exact hu
          · rw [List.getElem?_set] at hk
            by_cases e : l = k
            · subst e
              rw [if_pos rfl, if_pos (List.getElem?_eq_some_iff.1 hl).1] at hk
              injection hk with hk; injection hk with hk0 hk; subst hk
              exact hi.fv l sz ver rows wr hl v hv
            · rw [if_neg e] at hk; exact hi.fv k sz' ver' rows' wr' hk v hv
        · injection e with e; injection e with e0 e e' e''; subst e e' e''
          rw [h1] at e2; injection e2 with e2; injection e2 with e2; subst e2
          rw [h6] at e3; injection e3 with e3; injection e3 with e3; subst e3
          simp only [Cx.withRow, true_and]; rw [if_pos hj]
    | cells vs => exact ⟨C, .refl C, by simpa [freeze1, hl] using hi, rfl, rfl, fun sz ver rows wr r cur e => by cases e⟩
    | map es => exact ⟨C, .refl C, by simpa [freeze1, hl] using hi, rfl, rfl, fun sz ver rows wr r cur e => by cases e⟩
    | iter s pos => exact ⟨C, .refl C, by simpa [freeze1, hl] using hi, rfl, rfl, fun sz ver rows wr r cur e => by cases e⟩
    | dead => exact ⟨C, .refl C, by simpa [freeze1, hl] using hi, rfl, rfl, fun sz ver rows wr r cur e => by cases e⟩

theorem freeze1_get {l k : Nat} {sz ver : Nat} {rows : List (List AV)} {wr : Bool} (h : Heap) (hk : h[k]? = some (.arr sz ver rows wr)) : ∃ wr', (freeze1 h l)[k]? = some (.arr sz ver rows wr') := by
  unfold freeze1
  split
  · rename_i sz' ver' rows' wr' hl
    rw [List.getElem?_set]
    by_cases e : l = k
    · subst e
      rw [hk] at hl; injection hl with hl; injection hl with e0 e1 e2 e3; subst e0 e1 e2 e3
      exact ⟨false, by rw [if_pos rfl, if_pos (List.getElem?_eq_some_iff.1 hk).1]⟩
    · exact ⟨wr, by rw [if_neg e]; exact hk⟩
  · exact ⟨wr, hk⟩

/-- Arrays frozen: what they hold is known to stay. -/
def SeesAll (C D : Cx) (h : Heap) (w : World) (ls : List Nat) : Prop :=
  ∀ l ∈ ls, ∀ sz ver rows wr r cur, h[l]? = some (.arr sz ver rows wr) → C.ar l ver = some (some r) → w.heap[r.block]? = some (.cells cur r.elem (0, 0)) → ∀ j u, j < rows.length * r.size → cur[j]? = some u → D.im r.block j = some u

theorem freezeAll_inv : ∀ (ls : List Nat) {C : Cx} {h : Heap}, Inv B C h w → ∃ D, C.Le D ∧ Inv B D (freezeAll h ls) w ∧ D.bl = C.bl ∧ D.ar = C.ar ∧ SeesAll C D h w ls
  | [], C, h, hi => ⟨C, .refl C, hi, rfl, rfl, fun l hl => by cases hl⟩
  | l :: ls, C, h, hi => by
    obtain ⟨D, h1, h2, h3, h4, h5⟩ := freeze1_inv hi l
    obtain ⟨E, k1, k2, k3, k4, k5⟩ := freezeAll_inv ls h2
    refine ⟨E, h1.trans k1, k2, k3.trans h3, k4.trans h4, fun k hk sz ver rows wr r cur e1 e2 e3 j u hj hu => ?_⟩
    rcases List.mem_cons.1 hk with rfl | hk
    · exact k1.im _ _ _ (by rw [h5 sz ver rows wr r cur e1 e2 e3 j hj]; exact hu)
    · obtain ⟨wr', g⟩ := freeze1_get (l := l) h e1
      exact k5 k hk sz ver rows wr' r cur g (by rw [h4]; exact e2) e3 j u hj hu

/-- What a view shows is there, in a context that sees its arrays. -/
def SeesIm (C : Cx) (I : Nat → Nat → Option Value) (h : Heap) (w : World) (ls : List Nat) : Prop :=
  ∀ l ∈ ls, ∀ sz ver rows wr r cur, h[l]? = some (.arr sz ver rows wr) → C.ar l ver = some (some r) → w.heap[r.block]? = some (.cells cur r.elem (0, 0)) → ∀ j u, j < rows.length * r.size → cur[j]? = some u → I r.block j = some u

theorem rows_rel (hi : Inv B C h w) {I : Nat → Nat → Option Value} (hI : ∀ b o u, C.im b o = some u → I b o = some u) {l ver n : Nat} {rows : List (List AV)} {x : Value} (hs : SeesIm C I h w [l])
    (hr : rowsOf h (.own l ver n) = some rows) (hx : Rel C (.own l ver n) x) : Rel (Cx.pure I) (.sl rows) x := by
  simp only [rowsOf] at hr
  split at hr
  · rename_i sz ver' rows' wr hl
    split at hr
    · rename_i hc
      obtain ⟨rfl, hn⟩ := hc
      injection hr with hr; subst hr
      cases hx with
      | ownnil _ _ h1 => simp; exact .slnil
      | own _ _ _ r h1 hcap =>
        rcases hi.ok l _ hl with ⟨k1, _⟩ | ⟨r', cur, k1, k2, k3, k4, k5, k6, k7, k8, _⟩
        · rw [h1] at k1; cases k1
        · rw [h1] at k1; injection k1 with k1; injection k1 with k1; subst k1
          have hlen : (rows'.take n).length = n := by simp; omega
          have key : Rel (Cx.pure I) (.sl (rows'.take n)) (.slice (some ⟨r.block, 0, none⟩) (rows'.take n).length r.cap) := by
            refine .sl _ r.block 0 r.cap r.size (fun i j => (cur.toList[i * r.size + j]?).getD undef) (by omega) ?_ ?_ ?_
            · intro i row hrow
              exact k5 row (List.mem_of_mem_take (List.mem_of_getElem? hrow))
            · intro i row j c hrow hc
              have hi' : i < rows'.length := by
                have := (List.getElem?_eq_some_iff.1 hrow).1; simp at this; omega
              rw [List.getElem?_take] at hrow
              split at hrow
              · have hrl := k5 row (List.mem_of_getElem? hrow)
                have hj : j < r.size := by rw [← hrl]; exact (List.getElem?_eq_some_iff.1 hc).1
                have hm : (i + 1) * r.size ≤ rows'.length * r.size := Nat.mul_le_mul_right _ hi'
                rw [Nat.add_mul] at hm
                have hm2 : rows'.length * r.size ≤ cur.size := by rw [k7]; exact Nat.mul_le_mul_right _ k3
                have hlt : i * r.size + j < cur.size := by omega
                have hu : cur[i * r.size + j]? = some cur[i * r.size + j] := by simp [hlt]
                rw [Nat.zero_add]
                refine (hs l (by simp) _ _ _ _ _ _ hl h1 k6 (i * r.size + j) _ (by omega) hu).trans ?_
                simp [hlt]
              · cases hrow
            · intro i row j c hrow hc
              have hi' : i < rows'.length := by
                have := (List.getElem?_eq_some_iff.1 hrow).1; simp at this; omega
              rw [List.getElem?_take] at hrow
              split at hrow
              · have hrl := k5 row (List.mem_of_getElem? hrow)
                have hj : j < r.size := by rw [← hrl]; exact (List.getElem?_eq_some_iff.1 hc).1
                have hm : (i + 1) * r.size ≤ rows'.length * r.size := Nat.mul_le_mul_right _ hi'
                rw [Nat.add_mul] at hm
                have hm2 : rows'.length * r.size ≤ cur.size := by rw [k7]; exact Nat.mul_le_mul_right _ k3
                have hlt : i * r.size + j < cur.size := by omega
                have := k8.2 (i * r.size + j) c cur[i * r.size + j] (flatten_get rows' k5 i j row c hrow hc) (by rw [List.getElem?_take, if_pos (by omega)]; simp [hlt])
                simp only [Array.getElem?_toList]
                rw [show cur[i * r.size + j]? = some cur[i * r.size + j] by simp [hlt]]
                exact this.mono (pure_le (D := Cx.pure I) hI)
              · cases hrow
          rw [hlen] at key; exact key
    · cases hr
  · cases hr

mutual
theorem view_rel (hi : Inv B C h w) {I : Nat → Nat → Option Value} (hI : ∀ b o u, C.im b o = some u → I b o = some u) : ∀ (v v' : AV) (x : Value), SeesIm C I h w (owns v) → view h v = some v' → Rel C v x → Rel (Cx.pure I) v' x
  | .bool b, v', x, _, hv, hx => by simp only [view] at hv; injection hv with hv; subst hv; rw [bool_inv hx]; exact .bool _
  | .int k n, v', x, _, hv, hx => by simp only [view] at hv; injection hv with hv; subst hv; rw [int_inv hx]; exact .int _ _
  | .str s, v', x, _, hv, hx => by simp only [view] at hv; injection hv with hv; subst hv; rw [str_inv hx]; exact .str _
  | .agg cs, v', x, hs, hv, hx => by
    simp only [view] at hv
    cases hl : viewL h cs with
    | none => simp [hl] at hv
    | some ds =>
      simp only [hl, Option.map_some, Option.some.injEq] at hv; subst hv
      obtain ⟨us, rfl, q⟩ := agg_inv hx
      have := viewL_rel hi hI cs ds us.toList (by simpa [owns] using hs) hl q
      exact .agg ds us (by simpa using this.1) (fun i c u hc hu => this.2 i c u hc (by simpa using hu))
  | .sl rows, v', x, _, hv, hx => by
    simp only [view] at hv; injection hv with hv; subst hv
    have hle := pure_le (D := Cx.pure I) hI
    cases hx with
    | slnil => exact .slnil
    | slz a cap => exact .slz a cap
    | sl _ b o cap size us hcap h1 h2 h3 => exact .sl rows b o cap size us hcap h1 (fun i row j c x y => hI _ _ _ (h2 i row j c x y)) (fun i row j c x y => (h3 i row j c x y).mono hle)
  | .tsl rows, v', x, _, hv, hx => by
    simp only [view] at hv; injection hv with hv; subst hv
    have hle := pure_le (D := Cx.pure I) hI
    cases hx with
    | tslnil => exact .slnil
    | tslz a => exact .slz a 0
    | tsl _ b o size us h1 h2 h3 => exact .sl rows b o rows.length size us (Nat.le_refl _) h1 (fun i row j c x y => hI _ _ _ (h2 i row j c x y)) (fun i row j c x y => (h3 i row j c x y).mono hle)
  | .nils, v', x, _, hv, hx => by simp only [view] at hv; injection hv with hv; subst hv; cases hx; exact .slnil
  | .own l ver n, v', x, hs, hv, hx => by
    simp only [view] at hv
    cases hr : rowsOf h (.own l ver n) with
    | none => simp [hr] at hv
    | some rows =>
      simp only [hr, Option.map_some, Option.some.injEq] at hv; subst hv
      exact rows_rel hi hI (by simpa [owns] using hs) hr hx
  | .fptr row off, v', x, _, hv, hx => by
    simp only [view] at hv; injection hv with hv; subst hv
    have hle := pure_le (D := Cx.pure I) hI
    cases hx with
    | fptr _ _ b o us h1 h2 => exact .fptr row off b o us (fun j c x => hI _ _ _ (h1 j c x)) (fun j c x => (h2 j c x).mono hle)
  | .nilp, v', x, _, hv, hx => by simp only [view] at hv; injection hv with hv; subst hv; cases hx; exact .nilp
  | .nilm, v', x, _, hv, hx => by simp only [view] at hv; injection hv with hv; subst hv; cases hx; exact .nilm
  | .nilf, v', x, _, hv, hx => by simp only [view] at hv; injection hv with hv; subst hv; cases hx; exact .nilf
  | .nili, v', x, _, hv, hx => by simp only [view] at hv; injection hv with hv; subst hv; cases hx; exact .nili
  | .fn f caps, v', x, hs, hv, hx => by
    simp only [view] at hv
    cases hl : viewL h caps with
    | none => simp [hl] at hv
    | some ds =>
      simp only [hl, Option.map_some, Option.some.injEq] at hv; subst hv
      cases hx with
      | fn _ _ us hlen hh =>
        have := viewL_rel hi hI caps ds us.toList (by simpa [owns] using hs) hl ⟨by simpa using hlen, fun i c v hc hv => hh i c v hc (by simpa using hv)⟩
        exact .fn f ds us (by simpa using this.1) (fun i c u hc hu => this.2 i c u hc (by simpa using hu))
  | .iface t v, v', x, hs, hv, hx => by
    simp only [view] at hv
    cases hl : view h v with
    | none => simp [hl] at hv
    | some d =>
      simp only [hl, Option.map_some, Option.some.injEq] at hv; subst hv
      cases hx with
      | iface _ _ y hy => exact .iface t d y (view_rel hi hI v d y (by simpa [owns] using hs) hl hy)
  | .tup vs, v', x, hs, hv, hx => by
    simp only [view] at hv
    cases hl : viewL h vs with
    | none => simp [hl] at hv
    | some ds =>
      simp only [hl, Option.map_some, Option.some.injEq] at hv; subst hv
      cases hx with
      | tup _ us hlen hh =>
        have := viewL_rel hi hI vs ds us.toList (by simpa [owns] using hs) hl ⟨by simpa using hlen, fun i c v hc hv => hh i c v hc (by simpa using hv)⟩
        exact .tup ds us (by simpa using this.1) (fun i c u hc hu => this.2 i c u hc (by simpa using hu))
  | .ptr _ _, v', x, _, hv, _ => by simp [view] at hv
  | .eptr _ _ _ _, v', x, _, hv, _ => by simp [view] at hv
  | .gptr _ _, v', x, _, hv, _ => by simp [view] at hv
  | .map _, v', x, _, hv, _ => by simp [view] at hv
  | .junk, v', x, _, hv, _ => by simp [view] at hv
theorem viewL_rel (hi : Inv B C h w) {I : Nat → Nat → Option Value} (hI : ∀ b o u, C.im b o = some u → I b o = some u) : ∀ (vs vs' : List AV) (xs : List Value), SeesIm C I h w (ownsL vs) → viewL h vs = some vs' → RelL C vs xs → RelL (Cx.pure I) vs' xs
  | [], vs', xs, _, hv, hx => by simp only [viewL] at hv; injection hv with hv; subst hv; have := hx.inv_nil; subst this; exact .nil
  | v :: vs, vs', xs, hs, hv, hx => by
    simp only [viewL] at hv
    split at hv
    · rename_i d ds h1 h2
      injection hv with hv; subst hv
      obtain ⟨y, ys, rfl, r1, r2⟩ := hx.inv_cons
      simp only [ownsL] at hs
      exact .cons (view_rel hi hI v d y (fun l hl => hs l (List.mem_append.2 (.inl hl))) h1 r1) (viewL_rel hi hI vs ds ys (fun l hl => hs l (List.mem_append.2 (.inr hl))) h2 r2)
    · cases hv
end

end
end Go.Proofs.YtmjdgpiofhildaaDoor
