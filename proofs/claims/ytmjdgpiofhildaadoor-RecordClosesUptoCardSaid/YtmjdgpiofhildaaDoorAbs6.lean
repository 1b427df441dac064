/- Slices of strings and of slices, struct literals; then all operations that only look. -/
import Derived.Test.YtmjdgpiofhildaaDoorAbs5
namespace Go.Proofs.YtmjdgpiofhildaaDoor
open Go.RowKit
section
variable {P : Program} {B : Base} {C : Cx} {h : Heap} {w : World}

theorem run_sliceBound_ok {k : IntKind} {i : Int} {y : Nat} {code : BoundsCode} (h0 : 0 ≤ i) (h1 : i ≤ y) (w : World) : (Instr.sliceBound (.int k i) y code).run P w = .ok i.toNat w := by
  simp [Instr.sliceBound, asIntOf, h0, h1]

/-- A bound, as the model is handed it. -/
def bnd (o : Option (IntKind × Int)) : Option Value := o.map fun q => .int q.1 q.2
def bndI (o : Option (IntKind × Int)) : Option Int := o.map (·.2)

theorem run_bounds (isS : Bool) (len cap : Nat) (lo hi : Option (IntKind × Int)) (hcap : len ≤ cap) (h0 : 0 ≤ (bndI lo).getD 0) (h1 : (bndI lo).getD 0 ≤ (bndI hi).getD len) (h2 : (bndI hi).getD len ≤ len) (w : World) :
    (Instr.sliceBounds isS len cap (bnd lo) (bnd hi) none).run P w = .ok (((bndI lo).getD 0).toNat, ((bndI hi).getD len).toNat, cap) w := by
  cases lo with
  | none =>
    cases hi with
    | none => simp [Instr.sliceBounds, bnd, bndI]
    | some q =>
      obtain ⟨k, n⟩ := q
      simp [bndI] at h1 h2
      have := fun c => run_sliceBound_ok (P := P) (k := k) (i := n) (y := cap) (code := c) h1 (by omega) w
      simp [Instr.sliceBounds, bnd, bndI, this]
  | some p =>
    obtain ⟨k', m⟩ := p
    cases hi with
    | none =>
      simp [bndI] at h0 h1
      have := fun c => run_sliceBound_ok (P := P) (k := k') (i := m) (y := len) (code := c) h0 h1 w
      simp [Instr.sliceBounds, bnd, bndI, this]
    | some q =>
      obtain ⟨k, n⟩ := q
      simp [bndI] at h0 h1 h2
      have a1 := fun c => run_sliceBound_ok (P := P) (k := k) (i := n) (y := cap) (code := c) (by omega) (by omega) w
      have a2 := fun c => run_sliceBound_ok (P := P) (k := k') (i := m) (y := n.toNat) (code := c) h0 (by omega) w
      simp [Instr.sliceBounds, bnd, bndI, a1, a2]

theorem run_bounds_max (isS : Bool) (len cap : Nat) (lo : Option (IntKind × Int)) (k1 k2 : IntKind) (n : Int) (h0 : 0 ≤ (bndI lo).getD 0) (h1 : (bndI lo).getD 0 ≤ n) (h2 : n ≤ cap) (w : World) :
    (Instr.sliceBounds isS len cap (bnd lo) (some (.int k1 n)) (some (.int k2 n))).run P w = .ok (((bndI lo).getD 0).toNat, n.toNat, n.toNat) w := by
  have a0 := fun c => run_sliceBound_ok (P := P) (k := k2) (i := n) (y := cap) (code := c) (by omega) h2 w
  have a1 := fun c => run_sliceBound_ok (P := P) (k := k1) (i := n) (y := n.toNat) (code := c) (by omega) (by omega) w
  cases lo with
  | none => simp [Instr.sliceBounds, bnd, bndI, a0, a1]
  | some p =>
    obtain ⟨k', m⟩ := p
    simp [bndI] at h0 h1
    have a2 := fun c => run_sliceBound_ok (P := P) (k := k') (i := m) (y := n.toNat) (code := c) h0 (by omega) w
    simp [Instr.sliceBounds, bnd, bndI, a0, a1, a2]

theorem extract_ba (s : List UInt8) (a b : Nat) : (ByteArray.mk s.toArray).extract a b = ⟨((s.take b).drop a).toArray⟩ := by
  apply ByteArray.ext
  rw [ByteArray.data_extract]
  apply Array.ext'
  simp [List.drop_take]

theorem rel_sl_part {rows : List (List AV)} {x : Value} {len cap : Nat} {a : Option Addr} (hx : x = .slice a len cap) (h : Rel C (.sl rows) x) (l r : Nat) (hl : l ≤ r) (hr : r ≤ rows.length) (size : Nat)
    (hsize : ∀ row ∈ rows, row.length = size) (m : Nat) (hm : m = cap) :
    Rel C (.sl ((rows.take r).drop l)) (.slice (if m = l then a else a.map (·.add (l * size))) (r - l) (m - l)) := by
  subst hm
  cases h with
  | slnil =>
    injection hx with h1 h2 h3; subst h1 h2 h3
    simp at hr; subst hr
    have : l = 0 := by omega
    subst this
    simp; exact .slnil
  | slz a0 cap0 =>
    injection hx with h1 h2 h3; subst h1 h2 h3
    simp at hr; subst hr
    have : l = 0 := by omega
    subst this
    simp
    split <;> exact .slz _ _
  | sl _ b o cap size' us hcap h1 h2 h3 =>
    injection hx with e1 e2 e3; subst e1 e2 e3
    have hlen : ((rows.take r).drop l).length = r - l := by simp; omega
    by_cases hml : cap = l
    · subst hml
      have hle : r - cap = 0 := by omega
      have hnil : (rows.take r).drop cap = [] := List.eq_nil_of_length_eq_zero (by rw [hlen]; exact hle)
      rw [hnil, hle]
      simp
      exact .sl [] b o 0 size us (by simp) (by simp) (by simp) (by simp)
    · simp only [if_neg hml, Option.map_some, Addr.add_lit]
      rw [← hlen]
      refine .sl _ b (o + l * size) (cap - l) size (fun i j => us (l + i) j) (by rw [hlen]; omega) ?_ ?_ ?_
      · intro i row hrow
        exact hsize row (List.mem_of_mem_take (List.mem_of_mem_drop (List.mem_of_getElem? hrow)))
      · intro i row j c hrow hc
        rw [List.getElem?_drop, List.getElem?_take] at hrow
        split at hrow
        · have e := h1 _ _ hrow
          have e' := hsize row (List.mem_of_getElem? hrow)
          have := h2 _ _ _ _ hrow hc
          rw [← e, e'] at this
          rw [← this]; congr 1; rw [Nat.add_mul]; omega
        · cases hrow
      · intro i row j c hrow hc
        rw [List.getElem?_drop, List.getElem?_take] at hrow
        split at hrow
        · exact h3 _ _ _ _ hrow hc
        · cases hrow

theorem sizesOk_all {n : Nat} : ∀ {rows : List (List AV)}, sizesOk n rows = true → ∀ row ∈ rows, row.length = n
  | [], _, row, h => by simp at h
  | r :: rs, hs, row, h => by
    simp only [sizesOk, Bool.and_eq_true, decide_eq_true_eq] at hs
    rcases List.mem_cons.1 h with rfl | h
    · exact hs.1
    · exact sizesOk_all hs.2 row h

theorem rel_tsl_sl {rows : List (List AV)} {x : Value} (h : Rel C (.tsl rows) x) : Rel C (.sl rows) x := by
  cases h with
  | tslnil => exact .slnil
  | tslz a => exact .slz a 0
  | tsl _ b o size us h1 h2 h3 => exact .sl rows b o rows.length size us (Nat.le_refl _) h1 h2 h3

theorem rel_sl_tight {rows : List (List AV)} {b o len cap : Nat} (h : Rel C (.sl rows) (.slice (some ⟨b, o, none⟩) len cap)) (l r : Nat) (hl : l ≤ r) (hr : r ≤ rows.length) (size : Nat)
    (hsize : ∀ row ∈ rows, row.length = size) :
    Rel C (.tsl ((rows.take r).drop l)) (.slice (if r = l then some ⟨b, o, none⟩ else (some (⟨b, o, none⟩ : Addr)).map (·.add (l * size))) (r - l) (r - l)) := by
  have hlen : ((rows.take r).drop l).length = r - l := by simp; omega
  cases h with
  | slz a0 cap0 =>
    simp at hr; subst hr
    have : l = 0 := by omega
    subst this
    simp
    exact .tslz _
  | sl _ _ _ _ size' us hcap h1 h2 h3 =>
    have key : Rel C (.tsl ((rows.take r).drop l)) (.slice (some ⟨b, o + l * size, none⟩) ((rows.take r).drop l).length ((rows.take r).drop l).length) := by
      refine .tsl _ b (o + l * size) size (fun i j => us (l + i) j) ?_ ?_ ?_
      · intro i row hrow
        exact hsize row (List.mem_of_mem_take (List.mem_of_mem_drop (List.mem_of_getElem? hrow)))
      · intro i row j c hrow hc
        rw [List.getElem?_drop, List.getElem?_take] at hrow
        split at hrow
        · have e := h1 _ _ hrow
          have e' := hsize row (List.mem_of_getElem? hrow)
          have := h2 _ _ _ _ hrow hc
          rw [← e, e'] at this
          rw [← this]; congr 1; rw [Nat.add_mul]; omega
        · cases hrow
      · intro i row j c hrow hc
        rw [List.getElem?_drop, List.getElem?_take] at hrow
        split at hrow
        · exact h3 _ _ _ _ hrow hc
        · cases hrow
    by_cases e : r = l
    · subst e
      have hnil : (rows.take r).drop r = [] := List.eq_nil_of_length_eq_zero (by rw [hlen]; omega)
      rw [hnil]
      simp
      exact .tsl [] b o size us (by simp) (by simp) (by simp)
    · simp only [if_neg e, Option.map_some, Addr.add_lit]
      rw [hlen] at key
      exact key

theorem slc1_inv {o : Option Operand} {ρ : Operand → Value} {rest : List Value} {bs bs' : List AV} {l : Option Int} (hrel : RelL C bs (o.toList.map ρ ++ rest)) (h : slc1 o.isSome bs = some (l, bs')) :
    ∃ l' : Option (IntKind × Int), o.map ρ = bnd l' ∧ l = bndI l' ∧ RelL C bs' rest := by
  cases o with
  | none => simp [slc1] at h; obtain ⟨rfl, rfl⟩ := h; exact ⟨none, rfl, rfl, by simpa using hrel⟩
  | some x =>
    simp only [slc1, Option.isSome, if_true] at h
    split at h
    · rename_i k n r
      injection h with h; injection h with h1 h2; subst h1 h2
      obtain ⟨v, us, e, h1, h2⟩ := hrel.inv_cons
      simp at e
      obtain ⟨rfl, rfl⟩ := e
      refine ⟨some (k, n), ?_, rfl, h2⟩
      have := int_inv h1
      simp [bnd, this]
    · cases h

theorem slcArgs_inv {lo hi mx : Option Operand} {ρ : Operand → Value} {bs : List AV} {l r m : Option Int} (hrel : RelL C bs ((lo.toList ++ hi.toList ++ mx.toList).map ρ)) (h : slcArgs lo.isSome hi.isSome mx.isSome bs = some (l, r, m)) :
    ∃ l' r' m' : Option (IntKind × Int), lo.map ρ = bnd l' ∧ hi.map ρ = bnd r' ∧ mx.map ρ = bnd m' ∧ l = bndI l' ∧ r = bndI r' ∧ m = bndI m' := by
  simp only [List.map_append, List.append_assoc] at hrel
  unfold slcArgs at h
  split at h
  · rename_i l0 b1 h1
    obtain ⟨l', a1, a2, hrel1⟩ := slc1_inv hrel h1
    split at h
    · rename_i r0 b2 h2
      obtain ⟨r', a3, a4, hrel2⟩ := slc1_inv hrel1 h2
      split at h
      · rename_i m0 h3
        injection h with h; injection h with e1 h; injection h with e2 e3; subst e1 e2 e3
        obtain ⟨m', a5, a6, _⟩ := slc1_inv (rest := []) (by simpa using hrel2) h3
        exact ⟨l', r', m', a1, a3, a5, a2, a4, a6⟩
      · cases h
    · cases h
  · cases h

theorem slcRows_none {n : Nat} {rows : List (List AV)} {lo hi : Option Int} {v : AV} (h : slcRows n rows lo hi none = some v) :
    0 ≤ lo.getD 0 ∧ lo.getD 0 ≤ hi.getD rows.length ∧ hi.getD rows.length ≤ rows.length ∧ sizesOk n rows = true ∧ v = .sl ((rows.take (hi.getD rows.length).toNat).drop (lo.getD 0).toNat) := by
  have h : (if 0 ≤ lo.getD 0 ∧ lo.getD 0 ≤ hi.getD rows.length ∧ hi.getD rows.length ≤ rows.length ∧ sizesOk n rows then some (AV.sl ((rows.take (hi.getD rows.length).toNat).drop (lo.getD 0).toNat)) else none) = some v := h
  split at h
  · rename_i hc; injection h with h; exact ⟨hc.1, hc.2.1, hc.2.2.1, hc.2.2.2, h.symm⟩
  · cases h
theorem slcRows_some {n : Nat} {rows : List (List AV)} {lo hi : Option Int} {m : Int} {v : AV} (h : slcRows n rows lo hi (some m) = some v) :
    hi = some m ∧ 0 ≤ lo.getD 0 ∧ lo.getD 0 ≤ m ∧ m ≤ rows.length ∧ sizesOk n rows = true ∧ v = .tsl ((rows.take m.toNat).drop (lo.getD 0).toNat) := by
  have h : (if hi = some m ∧ 0 ≤ lo.getD 0 ∧ lo.getD 0 ≤ m ∧ m ≤ rows.length ∧ sizesOk n rows then some (AV.tsl ((rows.take m.toNat).drop (lo.getD 0).toNat)) else none) = some v := h
  split at h
  · rename_i hc; injection h with h; exact ⟨hc.1, hc.2.1, hc.2.2.1, hc.2.2.2.1, hc.2.2.2.2, h.symm⟩
  · cases h
theorem slcStr_inv {s : List UInt8} {lo hi : Option Int} {v : AV} (h : slcStr s lo hi = some v) :
    0 ≤ lo.getD 0 ∧ lo.getD 0 ≤ hi.getD s.length ∧ hi.getD s.length ≤ s.length ∧ v = .str ((s.take (hi.getD s.length).toNat).drop (lo.getD 0).toNat) := by
  unfold slcStr at h
  split at h
  · rename_i hc; injection h with h; exact ⟨hc.1, hc.2.1, hc.2.2, h.symm⟩
  · cases h

theorem rows_sound {t e : TypeId} {n : Nat} (ht : P.underlying t = some (.slice e)) (hs : tsize P e = some n) {x : Value} {rows : List (List AV)} (hrel : Rel C (.sl rows) x) {v : AV} (lo hi mx : Option (IntKind × Int))
    (hv : slcRows n rows (bndI lo) (bndI hi) (bndI mx) = some v) : ∃ u, Rel C v u ∧ ∀ w, (Instr.sliceAt t x (bnd lo) (bnd hi) (bnd mx)).run P w = .ok u w := by
  cases mx with
  | none =>
    obtain ⟨c1, c2, c3, c4, rfl⟩ := slcRows_none hv
    have hshape : ∃ a cap, x = .slice a rows.length cap ∧ rows.length ≤ cap := by
      cases hrel with
      | slnil => exact ⟨none, 0, rfl, by simp⟩
      | slz a cap => exact ⟨some a, cap, rfl, by simp⟩
      | sl _ b o cap size us hcap _ _ _ => exact ⟨_, cap, rfl, hcap⟩
    obtain ⟨a, cap, hxe, hcap⟩ := hshape
    have hb := run_bounds (P := P) true rows.length cap lo hi hcap c1 c2 c3
    refine ⟨_, rel_sl_part hxe hrel ((bndI lo).getD 0).toNat ((bndI hi).getD rows.length).toNat (by omega) (by omega) n (sizesOk_all c4) cap rfl, fun w => ?_⟩
    subst hxe
    have hb' := hb w
    simp only [Instr.sliceAt, Sem.run_bind, run_underlying ht, Result.andThen_ok, Instr.slice]
    rw [show bnd (none : Option (IntKind × Int)) = none from rfl, hb']
    simp only [Result.andThen_ok, run_sizeOf' hs, Sem.run_pure]
  | some q =>
    obtain ⟨k2, m⟩ := q
    obtain ⟨c0, c1, c2, c3, c4, rfl⟩ := slcRows_some (m := m) hv
    cases hi with
    | none => cases c0
    | some p =>
      obtain ⟨k1, m'⟩ := p
      have : m' = m := by simpa [bndI] using c0
      subst this
      cases hrel with
      | slnil =>
        have e0 : m' = 0 := by simp at c3; omega
        have e1 : ((bndI lo).getD 0) = 0 := by omega
        have hb := run_bounds_max (P := P) true 0 0 lo k1 k2 m' c1 c2 (by simp [e0])
        subst e0
        refine ⟨.slice none 0 0, by simpa using .tslnil, fun w => ?_⟩
        have hb' := hb w
        simp only [Instr.sliceAt, Sem.run_bind, run_underlying ht, Result.andThen_ok, Instr.slice]
        rw [show bnd (some (k1, (0 : Int))) = some (.int k1 0) from rfl, show bnd (some (k2, (0 : Int))) = some (.int k2 0) from rfl, hb']
        simp [run_sizeOf' hs, e1]
      | slz a0 cap0 =>
        have e0 : m' = 0 := by simp at c3; omega
        have e1 : ((bndI lo).getD 0) = 0 := by omega
        have hb := run_bounds_max (P := P) true 0 cap0 lo k1 k2 m' c1 c2 (by simp [e0])
        subst e0
        refine ⟨.slice (some a0) 0 0, by simpa using .tslz a0, fun w => ?_⟩
        have hb' := hb w
        simp only [Instr.sliceAt, Sem.run_bind, run_underlying ht, Result.andThen_ok, Instr.slice]
        rw [show bnd (some (k1, (0 : Int))) = some (.int k1 0) from rfl, show bnd (some (k2, (0 : Int))) = some (.int k2 0) from rfl, hb']
        simp [run_sizeOf' hs, e1]
      | sl _ b o cap size' us hcap h1 h2 h3 =>
        have hb := run_bounds_max (P := P) true rows.length cap lo k1 k2 m' c1 c2 (by omega)
        have hr0 : Rel C (.sl rows) (.slice (some ⟨b, o, none⟩) rows.length cap) := .sl rows b o cap size' us hcap h1 h2 h3
        refine ⟨_, rel_sl_tight hr0 ((bndI lo).getD 0).toNat m'.toNat (by omega) (by omega) n (sizesOk_all c4), fun w => ?_⟩
        have hb' := hb w
        simp only [Instr.sliceAt, Sem.run_bind, run_underlying ht, Result.andThen_ok, Instr.slice]
        rw [show bnd (some (k1, m')) = some (.int k1 m') from rfl, show bnd (some (k2, m')) = some (.int k2 m') from rfl, hb']
        simp only [Result.andThen_ok, run_sizeOf' hs, Sem.run_pure]

theorem slice_sound {t : TypeId} {size : Option Nat} (ht : match size with | none => P.underlying t = some .string | some n => ∃ e, P.underlying t = some (.slice e) ∧ tsize P e = some n)
    {a v : AV} {x : Value} (hx : Rel C a x) (lo hi mx : Option (IntKind × Int)) (hev : slcAV size a (bndI lo) (bndI hi) (bndI mx) = some v) :
    ∃ u, Rel C v u ∧ ∀ w, (Instr.sliceAt t x (bnd lo) (bnd hi) (bnd mx)).run P w = .ok u w := by
  unfold slcAV at hev
  split at hev
  · rename_i s
    have := str_inv hx; subst this
    cases mx with
    | some q => cases hev
    | none =>
      obtain ⟨c1, c2, c3, rfl⟩ := slcStr_inv hev
      have hb := run_bounds (P := P) false s.length s.length lo hi (Nat.le_refl _) c1 c2 c3
      refine ⟨_, .str _, fun w => ?_⟩
      have hb' := hb w
      simp only [Instr.sliceAt, Sem.run_bind, run_underlying ht, Result.andThen_ok, Instr.slice]
      rw [show bnd (none : Option (IntKind × Int)) = none from rfl, size_ba]
      simp only [Option.isSome, Bool.false_eq_true, if_false, Sem.run_bind, hb', Result.andThen_ok, Sem.run_pure, extract_ba]
  · rename_i n rows
    obtain ⟨e, ht, hs⟩ := ht
    exact rows_sound ht hs hx lo hi mx hev
  · rename_i n rows
    obtain ⟨e, ht, hs⟩ := ht
    cases mx with
    | some q => cases hev
    | none => exact rows_sound ht hs (rel_tsl_sl hx) lo hi none hev
  · rename_i n
    obtain ⟨e, ht, hs⟩ := ht
    cases mx with
    | some q => cases hev
    | none =>
      split at hev
      · rename_i hc
        injection hev with hev; subst hev
        obtain ⟨_, c1, c2⟩ := hc
        cases hx
        have hb := run_bounds (P := P) true 0 0 lo hi (Nat.le_refl _) (by omega) (by rw [c1]; show 0 ≤ (bndI hi).getD 0; omega) (by show (bndI hi).getD 0 ≤ 0; omega)
        refine ⟨_, .nils, fun w => ?_⟩
        have hb' := hb w
        simp only [Instr.sliceAt, Sem.run_bind, run_underlying ht, Result.andThen_ok, Instr.slice]
        rw [show bnd (none : Option (IntKind × Int)) = none from rfl, hb']
        simp only [Result.andThen_ok, run_sizeOf' hs, Sem.run_pure, c1]
        have c2' : (bndI hi).getD (↑(0 : Nat)) = 0 := c2
        rw [c2']; simp
      · cases hev
  · cases hev

end
end Go.Proofs.YtmjdgpiofhildaaDoor
