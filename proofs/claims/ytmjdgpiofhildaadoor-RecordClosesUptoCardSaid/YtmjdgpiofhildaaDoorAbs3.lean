/- The abstract heap against a world; what only looks, looks at the same in every world that has grown. -/
import Derived.Test.YtmjdgpiofhildaaDoorAbs2
namespace Go.Proofs.YtmjdgpiofhildaaDoor
open Go.RowKit

/-- The block of a place. -/
def blockOf (C : Cx) (l : Nat) : Blk → Option Nat
  | .cells _ => C.bl l
  | .arr _ ver _ _ => match C.ar l ver with
    | some (some r) => some r.block
    | _ => none
  | .map _ => C.bl l
  | .iter _ _ => C.bl l
  | .dead => none

def BlkOK (B : Nat) (C : Cx) (w : World) (l : Nat) : Blk → Prop
  | .cells vs => ∃ b cur e, C.bl l = some b ∧ B ≤ b ∧ w.heap[b]? = some (.cells cur e (0, 0)) ∧ (∀ o, C.im b o = none) ∧ RelL C vs cur.toList
  | .arr sz ver rows wr => (C.ar l ver = some none ∧ rows = []) ∨ ∃ r cur, C.ar l ver = some (some r) ∧ B ≤ r.block ∧ rows.length ≤ r.cap ∧ r.cap ≤ maxLen ∧
      (∀ row ∈ rows, row.length = r.size) ∧ w.heap[r.block]? = some (.cells cur r.elem (0, 0)) ∧ cur.size = r.cap * r.size ∧
      RelL (Cx.pure C.im) rows.flatten (cur.toList.take (rows.length * r.size)) ∧ (∀ u ∈ cur.toList.take (rows.length * r.size), u.oneCell' = true) ∧
      (wr = true → ∀ o, C.im r.block o = none) ∧ (wr = false → ∀ j u, j < rows.length * r.size → cur[j]? = some u → C.im r.block j = some u) ∧ r.size = sz
  | .map es => ∃ b ms ck, C.bl l = some b ∧ B ≤ b ∧ w.heap[b]? = some (.map ms ck) ∧ es.length = ms.size ∧
      (∀ (i : Nat) k v m, es[i]? = some (k, v) → ms[i]? = some m → Rel (Cx.pure C.im) k m.key ∧ Rel (Cx.pure C.im) v m.val)
  | .iter s pos => ∃ b, C.bl l = some b ∧ B ≤ b ∧ w.heap[b]? = some (.stringIter ⟨s.toArray⟩ pos)
  | .dead => True

/-- Where a call's own blocks begin, and which of the older cells stay as they are. -/
structure Base where
  n : Nat
  lo : Nat → Nat → Option Value
  gv : Nat → Option (List AV)

instance : Coe Base Nat := ⟨Base.n⟩

structure Inv (B : Base) (C : Cx) (h : Heap) (w : World) : Prop where
  im : ∀ b o u, C.im b o = some u → w.cell? ⟨b, o, none⟩ = some u
  one : ∀ b o u, C.im b o = some u → u.oneCell' = true
  ok : ∀ (l : Nat) blk, h[l]? = some blk → BlkOK B C w l blk
  inj : ∀ (l l' : Nat) blk blk' b, h[l]? = some blk → h[l']? = some blk' → blockOf C l blk = some b → blockOf C l' blk' = some b → l = l'
  fr : ∀ l, h.length ≤ l → C.bl l = none ∧ ∀ v, C.ar l v = none
  fv : ∀ (l : Nat) sz ver rows wr, h[l]? = some (.arr sz ver rows wr) → ∀ v, ver < v → C.ar l v = none
  hB : B ≤ w.heap.size
  low : ∀ b o u, b < B.n → C.im b o = some u → B.lo b o = some u
  gl : ∀ g r, B.gv g = some r → Rel (Cx.pure C.im) (.fptr r 0) (.pointer (some ⟨g, 0, none⟩))

theorem cell_lt {w : World} {b o : Nat} {u : Value} (h : w.cell? ⟨b, o, none⟩ = some u) : b < w.heap.size := World.block_lt_of_cell? w _ h
theorem heap_lt {w : World} {b : Nat} {o : Obj} (h : w.heap[b]? = some o) : b < w.heap.size := (Array.getElem?_eq_some_iff.1 h).1

theorem cell_of_heap {w : World} {b : Nat} {cur : Array Value} {e : TypeId} {f : Nat × Nat} (h : w.heap[b]? = some (.cells cur e f)) (o : Nat) : w.cell? ⟨b, o, none⟩ = cur[o]? := by
  simp [World.cell?, h]

/-- A world that has grown holds what was held. -/
theorem Inv.grow {B : Base} {C : Cx} {h : Heap} {w w' : World} (hi : Inv B C h w) (hb : Below w.heap.size w w') : Inv B C h w' := by
  have cell : ∀ b o u, w.cell? ⟨b, o, none⟩ = some u → w'.cell? ⟨b, o, none⟩ = some u := fun b o u hc => (hb.cell (p := ⟨b, o, none⟩) (cell_lt hc)).trans hc
  have heap : ∀ b o, w.heap[b]? = some o → w'.heap[b]? = some o := fun b o hc => (hb.block b (heap_lt hc)).trans hc
  refine ⟨fun b o u x => cell b o u (hi.im b o u x), hi.one, fun l blk x => ?_, hi.inj, hi.fr, hi.fv, Nat.le_trans hi.hB hb.size, hi.low, hi.gl⟩
  have k := hi.ok l blk x
  cases blk with
  | cells vs =>
    obtain ⟨b, cur, e, h1, h2, h3, h4⟩ := k
    exact ⟨b, cur, e, h1, h2, heap _ _ h3, h4⟩
  | arr sz ver rows wr =>
    rcases k with k | ⟨r, cur, h1, h2, h3, h4, h5, h6, h7⟩
    · exact .inl k
    · exact .inr ⟨r, cur, h1, h2, h3, h4, h5, heap _ _ h6, h7⟩
  | map es =>
    obtain ⟨b, ms, ck, h1, h2, h3, h4⟩ := k
    exact ⟨b, ms, ck, h1, h2, heap _ _ h3, h4⟩
  | iter s pos =>
    obtain ⟨b, h1, h2, h3⟩ := k
    exact ⟨b, h1, h2, heap _ _ h3⟩
  | dead => trivial

/-! ### Rows of one width, one behind the other -/
theorem flatten_get {n : Nat} : ∀ (rows : List (List AV)), (∀ row ∈ rows, row.length = n) → ∀ (i j : Nat) row c, rows[i]? = some row → row[j]? = some c → rows.flatten[i * n + j]? = some c
  | [], _, i, j, row, c, h1, _ => by simp at h1
  | r :: rs, hall, 0, j, row, c, h1, h2 => by
    simp at h1; subst h1
    rw [List.flatten_cons, List.getElem?_append_left (by simpa using (List.getElem?_eq_some_iff.1 h2).1)]
    simpa using h2
  | r :: rs, hall, i + 1, j, row, c, h1, h2 => by
    have hr : r.length = n := hall r (by simp)
    have ih := flatten_get rs (fun x hx => hall x (by simp [hx])) i j row c (by simpa using h1) h2
    rw [List.flatten_cons, List.getElem?_append_right (by rw [hr, Nat.add_mul]; omega), hr]
    rw [show (i + 1) * n + j - n = i * n + j by rw [Nat.add_mul]; omega]
    exact ih
theorem flatten_len {n : Nat} : ∀ (rows : List (List AV)), (∀ row ∈ rows, row.length = n) → rows.flatten.length = rows.length * n
  | [], _ => by simp
  | r :: rs, hall => by
    rw [List.flatten_cons, List.length_append, hall r (by simp), flatten_len rs (fun x hx => hall x (by simp [hx])), List.length_cons, Nat.add_mul]; omega

/-! ### Loads -/
theorem mkVal_agg {size : Nat} {cs : List AV} {v : AV} (h : mkVal true size cs = some v) : cs.length = size ∧ v = .agg cs := by
  simp only [mkVal, if_true] at h
  split at h
  · injection h with h; exact ⟨‹_›, h.symm⟩
  · cases h
theorem mkVal_one {size : Nat} {cs : List AV} {v : AV} (h : mkVal false size cs = some v) : cs = [v] := by
  simp only [mkVal, Bool.false_eq_true, if_false] at h
  split at h
  · injection h with h; subst h; rfl
  · cases h

/-- The concrete value made of cells. -/
def mkC (agg : Bool) (us : List Value) : Value := if agg then .agg us.toArray else us.headD undef

theorem mkVal_rel {C : Cx} {agg : Bool} {size : Nat} {cs : List AV} {us : List Value} {v : AV} (hm : mkVal agg size cs = some v) (hr : RelL C cs us) : Rel C v (mkC agg us) := by
  cases agg with
  | true =>
    obtain ⟨h1, rfl⟩ := mkVal_agg hm
    exact .agg cs us.toArray (by simpa using hr.1) (fun i c u hc hu => hr.2 i c u hc (by simpa using hu))
  | false =>
    have := mkVal_one hm; subst this
    obtain ⟨u, us', rfl, h1, h2⟩ := hr.inv_cons
    exact h1

theorem run_isAgg {P : Program} {t : TypeId} {agg : Bool} (h : (P.underlying t).map (fun | .struct _ => true | .array _ _ => true | _ => false) = some agg) (w : World) : (isAgg t).run P w = .ok agg w := by
  cases hu : P.underlying t with
  | none => simp [hu] at h
  | some d => cases d <;> simp [hu] at h <;> subst h <;> simp [isAgg, run_underlying hu]

def tagg (P : Program) (t : TypeId) : Option Bool := (P.underlying t).map (fun | .struct _ => true | .array _ _ => true | _ => false)
def tsize (P : Program) (t : TypeId) : Option Nat := (P.info? t).map (·.size)

theorem run_sizeOf' {P : Program} {t : TypeId} {n : Nat} (h : tsize P t = some n) (w : World) : (sizeOf t).run P w = .ok n w := by
  unfold tsize at h
  cases hi : P.info? t with
  | none => simp [hi] at h
  | some i => simp [hi] at h; subst h; simp [sizeOf, typeInfo, hi]

theorem run_loadVar {P : Program} {t : TypeId} {agg : Bool} {size : Nat} (ha : tagg P t = some agg) (hs : tsize P t = some size) (a : Addr) (us : List Value) (hl : if agg then us.length = size else us.length = 1) (w : World)
    (hc : ∀ (j : Nat) u, us[j]? = some u → w.cell? (a.add j) = some u) : (loadVar t a).run P w = .ok (mkC agg us) w := by
  have h1 := run_isAgg ha w
  cases agg with
  | true =>
    simp only [if_true] at hl
    have := run_loadCells_list (P := P) w a us hc
    rw [hl] at this
    simp [loadVar, h1, run_sizeOf' hs, this, mkC]
  | false =>
    simp only [Bool.false_eq_true, if_false] at hl
    match us, hl with
    | [u], _ =>
      have h0 := hc 0 u rfl
      simp [Addr.add] at h0
      simp [loadVar, h1, h0, mkC]

/-- What the cut of a row is, cell by cell. -/
theorem cut_rel {C : Cx} {cs : List AV} {us : List Value} (h : RelL C cs us) (off size : Nat) : RelL C (cut cs off size) ((us.drop off).take size) := (h.drop off).take size

theorem mkVal_len {agg : Bool} {size : Nat} {cs : List AV} {v : AV} (h : mkVal agg size cs = some v) : if agg then cs.length = size else cs.length = 1 := by
  cases agg with
  | true => simpa using (mkVal_agg h).1
  | false => have := mkVal_one h; subst this; simp

theorem cut_get {us : List Value} {off size j : Nat} {u : Value} (h : ((us.drop off).take size)[j]? = some u) : us[off + j]? = some u := by
  rw [List.getElem?_take] at h
  split at h
  · rwa [List.getElem?_drop] at h
  · cases h

/-- A row given cell by cell, as a list. -/
theorem row_rel {C : Cx} {row : List AV} {us : Nat → Value} (hr : ∀ (j : Nat) c, row[j]? = some c → Rel C c (us j)) : RelL C row ((List.range row.length).map us) := by
  refine ⟨by simp, fun i c v hc hv => ?_⟩
  rw [List.getElem?_map, List.getElem?_range (List.getElem?_eq_some_iff.1 hc).1] at hv
  simp at hv; subst hv
  exact hr i c hc

theorem loadAV_sound {P : Program} {B : Base} {C : Cx} {h : Heap} {w : World} (hi : Inv B C h w) {t : TypeId} {agg : Bool} {size : Nat} (ha : tagg P t = some agg) (hs : tsize P t = some size)
    {a v : AV} {x : Value} (hr : Rel C a x) (hl : loadAV size agg h a = some v) :
    ∃ u, Rel C v u ∧ ∀ w', Below w.heap.size w w' → (Instr.loadAt t x).run P w' = .ok u w' := by
  cases a with
  | ptr l off =>
    simp only [loadAV] at hl
    split at hl
    · rename_i vs hx
      cases hr with
      | ptr _ _ b hb =>
        obtain ⟨b', cur, e, h1, h2, h3, h4, h5⟩ := hi.ok l _ hx
        rw [hb] at h1; injection h1 with h1; subst h1
        have hrel := cut_rel h5 off size
        refine ⟨_, mkVal_rel hl hrel, fun w' hw' => ?_⟩
        have hlen := mkVal_len hl
        rw [hrel.1] at hlen
        have := run_loadVar ha hs ⟨b, off, none⟩ _ hlen w' (fun j u hj => by
          rw [Addr.add_lit, cell_of_heap ((hw'.block b (heap_lt h3)).trans h3)]
          simpa using cut_get hj)
        simpa [Instr.loadAt, Instr.sureAddr] using this
    · cases hl
  | fptr row off =>
    simp only [loadAV] at hl
    cases hr with
    | fptr _ _ b o us hc hr =>
      have hrel := cut_rel ((row_rel hr).mono C.frozen_le) off size
      refine ⟨_, mkVal_rel hl hrel, fun w' hw' => ?_⟩
      have hlen := mkVal_len hl
      rw [hrel.1] at hlen
      have := run_loadVar ha hs ⟨b, o + off, none⟩ _ hlen w' (fun j u hj => by
        have hg := cut_get hj
        have hlt : off + j < row.length := by
          have := (List.getElem?_eq_some_iff.1 hg).1; simpa using this
        rw [List.getElem?_map, List.getElem?_range hlt] at hg
        simp at hg; subst hg
        rw [Addr.add_lit]
        have hcell := hi.im _ _ _ (hc (off + j) row[off + j] (by simp [hlt]))
        rw [Nat.add_assoc]
        exact (hw'.cell (p := ⟨b, o + (off + j), none⟩) (cell_lt hcell)).trans hcell)
      simpa [Instr.loadAt, Instr.sureAddr] using this
  | eptr l ver i off =>
    simp only [loadAV] at hl
    split at hl
    · rename_i sz ver' rows wr hx
      split at hl
      · rename_i hv; subst hv
        split at hl
        · rename_i row hrow
          cases hr with
          | eptr _ _ _ _ r hb =>
            have hok := hi.ok l _ hx
            rcases hok with ⟨h1, _⟩ | ⟨r', cur, h1, h2, h3, h4, h5, h6, h7, h8, _⟩
            · rw [hb] at h1; cases h1
            · rw [hb] at h1; injection h1 with h1; injection h1 with h1; subst h1
              have hi' : i < rows.length := (List.getElem?_eq_some_iff.1 hrow).1
              have hrl : row.length = r.size := h5 row (List.mem_of_getElem? hrow)
              have hfl := flatten_len rows h5
              have hrowrel : RelL (Cx.pure C.im) row ((cur.toList.drop (i * r.size)).take r.size) := by
                refine ⟨?_, fun j c u hc hu => ?_⟩
                · have := h8.1; simp [hfl] at this ⊢
                  have hm : (i + 1) * r.size ≤ rows.length * r.size := Nat.mul_le_mul_right _ hi'
                  rw [Nat.add_mul] at hm
                  omega
                · have hj : j < r.size := by rw [← hrl]; exact (List.getElem?_eq_some_iff.1 hc).1
                  have hm : (i + 1) * r.size ≤ rows.length * r.size := Nat.mul_le_mul_right _ hi'
                  rw [Nat.add_mul] at hm
                  refine h8.2 (i * r.size + j) c u (flatten_get rows h5 i j row c hrow hc) ?_
                  rw [List.getElem?_take, if_pos (by omega)]
                  exact cut_get hu
              have hrel := cut_rel (hrowrel.mono C.frozen_le) off size
              refine ⟨_, mkVal_rel hl hrel, fun w' hw' => ?_⟩
              have hlen := mkVal_len hl
              rw [hrel.1] at hlen
              have := run_loadVar ha hs ⟨r.block, i * r.size + off, none⟩ _ hlen w' (fun j u hj => by
                rw [Addr.add_lit, cell_of_heap ((hw'.block r.block (heap_lt h6)).trans h6)]
                have := cut_get (cut_get hj)
                simpa [Nat.add_assoc] using this)
              simpa [Instr.loadAt, Instr.sureAddr] using this
        · cases hl
      · cases hl
    · cases hl
  | _ => simp [loadAV] at hl

end Go.Proofs.YtmjdgpiofhildaaDoor
