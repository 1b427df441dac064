/- The operations that make or turn something, all of them. -/
import Derived.Test.YtmjdgpiofhildaaDoorAbs12
namespace Go.Proofs.YtmjdgpiofhildaaDoor
open Go.RowKit
section
variable {P : Program} {B : Base} {C D : Cx} {h : Heap} {w w' : World} {G : Gam}

/-! ### A slice written out -/
def rowPl (n : Nat) : Nat → Option (Nat × Nat) := fun i => some (i * n, n)

theorem bld_rows {n : Nat} (h0 : 0 < n) : ∀ (vs : List AV) (pre : List AV) (k : Nat), pre.length = k * n → sizesOk n (vs.map AV.cells) = true →
    bldAV (pre ++ List.replicate (vs.length * n) AV.junk) ((List.range' k vs.length).map fun i => (i * n, n)) vs = some (pre ++ (vs.map AV.cells).flatten)
  | [], pre, k, _, _ => by simp [bldAV]
  | v :: vs, pre, k, hp, hs => by
    simp only [List.map_cons, sizesOk, Bool.and_eq_true, decide_eq_true_eq] at hs
    obtain ⟨s1, s2⟩ := hs
    rw [List.length_cons, List.range'_succ, List.map_cons]
    simp only [bldAV]
    rw [if_pos ⟨s1, h0, by simp [hp]; rw [Nat.add_mul]; omega⟩]
    rw [setAt_splice _ _ _ (by simp [hp, s1]; rw [Nat.add_mul]; omega)]
    have e1 : (pre ++ List.replicate ((vs.length + 1) * n) AV.junk).take (k * n) = pre := by rw [← hp]; simp
    have e2 : (pre ++ List.replicate ((vs.length + 1) * n) AV.junk).drop (k * n + v.cells.length) = List.replicate (vs.length * n) AV.junk := by
      rw [List.drop_append, List.drop_of_length_le (by omega), hp, List.drop_replicate, s1]
      rw [show (vs.length + 1) * n - (k * n + n - k * n) = vs.length * n by rw [Nat.add_mul]; omega]
      simp
    rw [e1, e2]
    have := bld_rows h0 vs (pre ++ v.cells) (k + 1) (by rw [List.length_append, hp, s1, Nat.add_mul]; omega) s2
    rw [this]; simp

theorem places_rows {n : Nat} : ∀ (parts : List (Nat × Operand)), placesOf (rowPl n) parts = some (parts.map fun p => (p.1 * n, n))
  | [] => rfl
  | (i, x) :: r => by simp [placesOf, rowPl, places_rows r]

theorem junks {n : Nat} {us : List Value} (h : us.length = n) : RelL C (List.replicate n .junk) us :=
  ⟨by simp [h], fun i c v hc _ => by
    rw [List.getElem?_replicate] at hc
    split at hc
    · injection hc with hc; subst hc; exact .junk v
    · cases hc⟩

theorem run_buildSlice {t e : TypeId} {i : TypeInfo} {z : Value} (ht : P.underlying t = some (.slice e)) (hi : P.info? e = some i) (hz : i.zero = some z) {len : Nat} (hl : len * i.size ≤ 16777216) {parts : Array (Nat × Value)} {Q : Array Value → Prop}
    (hf : ∀ base : Array Value, base.size = len * i.size → ∃ cells, Instr.fill (rowPl i.size) base parts.toList = some cells ∧ Q cells) (w : World) :
    ∃ cells, Q cells ∧ (Instr.buildSlice t len parts).run P w = .ok (.slice (some ⟨w.heap.size, 0, none⟩) len len) (w.alloc (.cells cells e)) := by
  have hs : (sizeOf e).run P w = .ok i.size w := run_sizeOf' (by simp [tsize, hi]) w
  have hzv : (zeroValue e).run P w = .ok z w := by simp [zeroValue, typeInfo, hi, hz]
  simp only [Instr.buildSlice, Sem.run_bind, run_underlying ht, Result.andThen_ok, hs]
  rw [if_neg (by omega)]
  by_cases h0 : len * i.size = 0
  · obtain ⟨cells, this, hq⟩ := hf ((Array.range (len * i.size)).map fun j => (#[] : Array Value)[j % (#[] : Array Value).size]!) (by simp)
    refine ⟨cells, hq, ?_⟩
    unfold rowPl at this
    simp only [if_pos h0, Sem.run_bind, Sem.run_pure, Result.andThen_ok]
    rw [this]
    simp [newRow]
  · obtain ⟨cells, this, hq⟩ := hf ((Array.range (len * i.size)).map fun j => z.cells[j % z.cells.size]!) (by simp)
    refine ⟨cells, hq, ?_⟩
    unfold rowPl at this
    simp only [if_neg h0, Sem.run_bind, hzv, Sem.run_pure, Result.andThen_ok]
    rw [this]
    simp [newRow]

theorem parts_range {parts : List (Nat × Operand)} {len n : Nat} (hp : parts.map (·.1) = List.range len) : parts.map (fun p => (p.1 * n, n)) = (List.range' 0 parts.length).map fun i => (i * n, n) := by
  have hl : parts.length = len := by have := congrArg List.length hp; simpa using this
  have : (parts.map (·.1)).map (fun i => (i * n, n)) = (List.range len).map fun i => (i * n, n) := by rw [hp]
  rw [List.map_map] at this
  rw [hl, ← List.range_eq_range']
  exact this

theorem onesOk_flat : ∀ {rows : List (List AV)}, onesOk rows = true → rows.flatten.all oneC = true
  | [], _ => rfl
  | r :: rs, h => by
    simp only [onesOk, Bool.and_eq_true] at h
    rw [List.flatten_cons, List.all_append, h.1, onesOk_flat h.2]; rfl

theorem sizesOk_mem {n : Nat} : ∀ {rows : List (List AV)}, sizesOk n rows = true → ∀ row ∈ rows, row.length = n
  | [], _, row, hr => by simp at hr
  | r :: rs, h, row, hr => by
    simp only [sizesOk, Bool.and_eq_true, decide_eq_true_eq] at h
    rcases List.mem_cons.1 hr with rfl | hr
    · exact h.1
    · exact sizesOk_mem h.2 row hr

/-- A new frozen row. -/
theorem add_frozen (hi : Inv B C h w) {rows : List (List AV)} {cells : Array Value} {e : TypeId} {n : Nat} (hsz : ∀ row ∈ rows, row.length = n) (hr : RelL (Cx.pure C.im) rows.flatten cells.toList) (hone : ∀ u ∈ cells.toList, u.oneCell' = true) :
    ∃ D, C.Le D ∧ Inv B D h (w.alloc (.cells cells e)) ∧ Rel D (.tsl rows) (.slice (some ⟨w.heap.size, 0, none⟩) rows.length rows.length) := by
  have hnone : ∀ o, C.im w.heap.size o = none := fun o => by
    cases hc : C.im w.heap.size o with
    | none => rfl
    | some u => have := cell_lt (hi.im _ _ _ hc); omega
  have hle : C.Le (C.withRow w.heap.size cells.size cells) := ⟨fun b o v x => by
    show (if b = w.heap.size ∧ o < cells.size then cells[o]? else C.im b o) = some v
    rw [if_neg (fun e => by rw [e.1, hnone] at x; cases x)]; exact x, fun _ _ x => x, fun _ _ _ x => x⟩
  have himD : ∀ b o, b < w.heap.size → (C.withRow w.heap.size cells.size cells).im b o = C.im b o := fun b o hb => by
    show (if b = w.heap.size ∧ o < cells.size then cells[o]? else C.im b o) = _
    rw [if_neg (fun e => by omega)]
  have hin : ∀ b o u, (C.withRow w.heap.size cells.size cells).im b o = some u → (b = w.heap.size ∧ cells[o]? = some u) ∨ C.im b o = some u := fun b o u hx => by
    have hx' : (if b = w.heap.size ∧ o < cells.size then cells[o]? else C.im b o) = some u := hx
    split at hx'
    · rename_i e; exact .inl ⟨e.1, hx'⟩
    · exact .inr hx'
  refine ⟨C.withRow w.heap.size cells.size cells, hle, ?_, ?_⟩
  · refine hi.extend ⟨hle, himD⟩ (below_alloc w _) (fun b o u hx => ?_) (fun b o u hx => ?_) hi.fr hi.fv
    · rcases hin b o u hx with ⟨rfl, hc⟩ | hc
      · rw [cell_of_heap (heap_new w _)]; exact hc
      · exact im_grow hi (below_alloc w _) b o u hc
    · rcases hin b o u hx with ⟨rfl, hc⟩ | hc
      · exact hone u (by
          obtain ⟨hlt, hg⟩ := Array.getElem?_eq_some_iff.1 hc
          rw [← hg]; simp)
      · exact hi.one b o u hc
  · have get : ∀ (i : Nat) row (j : Nat) c, rows[i]? = some row → row[j]? = some c → ∃ u, cells[i * n + j]? = some u ∧ Rel (Cx.pure C.im) c u := fun i row j c h1 h2 => by
      obtain ⟨u, h3, h4⟩ := hr.get (flatten_get rows hsz i j row c h1 h2)
      exact ⟨u, by simpa using h3, h4⟩
    refine .tsl rows _ _ n (fun i j => (cells[i * n + j]?).getD undef) (fun i row h1 => hsz row (List.mem_of_getElem? h1)) (fun i row j c h1 h2 => ?_) (fun i row j c h1 h2 => ?_)
    · obtain ⟨u, h3, _⟩ := get i row j c h1 h2
      show (if w.heap.size = w.heap.size ∧ 0 + i * n + j < cells.size then cells[0 + i * n + j]? else _) = _
      rw [if_pos ⟨rfl, by have := (Array.getElem?_eq_some_iff.1 h3).1; omega⟩, Nat.zero_add, h3]; rfl
    · obtain ⟨u, h3, h4⟩ := get i row j c h1 h2
      show Rel _ c ((cells[i * n + j]?).getD undef)
      rw [h3]; exact h4.mono (pure_le hle.im)

theorem bsl_sound (hi : Inv B C h w) {t e : TypeId} {n len : Nat} {z : List AV} {own : Bool} (ht : P.underlying t = some (.slice e)) (hn : tsize P e = some n) (hz : tzero P e = some z) {parts : Array (Nat × Operand)} (hp : parts.toList.map (·.1) = List.range len) {ρ : Operand → Value}
    {vals : List AV} {v : AV} {h' : Heap} (hrel : RelL C vals ((parts.toList.map (·.2)).map ρ)) (hev : evalEff G h (.bsl own n) vals = some (v, h')) :
    ∃ u D w', (Instr.buildSlice t len (parts.map fun (i, x) => (i, ρ x))).run P w = .ok u w' ∧ C.Le D ∧ Inv B D h' w' ∧ Rel D v u ∧ Below B w w' := by
  simp only [evalEff] at hev
  cases hf : frzL h vals with
  | none => simp [hf] at hev
  | some uh =>
    obtain ⟨us, h1⟩ := uh
    simp only [hf] at hev
    split at hev
    · rename_i hcond
      obtain ⟨s1, s2, s3, s4⟩ := hcond
      obtain ⟨D, d1, d2, d3, d4, d5⟩ := frzL_sound hi hf hrel
      obtain ⟨i, zv, hii, hzz, _⟩ := tzero_rel (C := C) hz
      have hsize : i.size = n := by simpa [tsize, hii] using hn
      have hul : us.length = parts.toList.length := by have := d3.1; simpa using this
      have hpl : parts.toList.length = len := by have := congrArg List.length hp; simpa using this
      have hb := bld_rows s3 us [] 0 (by simp) s1
      rw [List.nil_append, List.nil_append, hul, ← parts_range hp] at hb
      have hd3 : RelL (Cx.pure D.im) us (parts.toList.map fun p => ρ p.2) := by rw [List.map_map] at d3; exact d3
      have hfl : (us.map AV.cells).flatten.length = us.length * n := by rw [flatten_len _ (sizesOk_mem s1)]; simp
      have hfill : ∀ base : Array Value, base.size = len * i.size → ∃ cells, Instr.fill (rowPl i.size) base (parts.map fun (x : Nat × Operand) => (x.1, ρ x.2)).toList = some cells ∧ RelL (Cx.pure D.im) (us.map AV.cells).flatten cells.toList := by
        intro base hbase
        obtain ⟨cells, c1, c2⟩ := bld_fill (rowPl i.size) parts.toList ρ _ (List.replicate (parts.toList.length * n) .junk) base us _ (by rw [hsize]; exact places_rows _) (junks (by simp; rw [hbase, hsize, ← hpl]; simp)) hd3 hb
        refine ⟨cells, ?_, c2⟩
        rw [← c1]; simp
      obtain ⟨cells, f2, hrun⟩ := run_buildSlice ht hii hzz (by rw [hsize, ← hpl, ← hul]; exact s4) hfill w
      have hlen : len = (us.map AV.cells).length := by simp; omega
      have hones := onesC_rel f2 (onesOk_flat s2)
      split at hev
      · simp only [Option.some.injEq, Prod.mk.injEq] at hev
        obtain ⟨rfl, rfl⟩ := hev
        have hcl : cells.toList.length = us.length * n := by rw [← f2.1, hfl]
        have htk : cells.toList.take ((us.map AV.cells).length * n) = cells.toList := List.take_of_length_le (by simp at hcl ⊢; omega)
        obtain ⟨b1, b2, b3⟩ := add_arr d2 (rows := us.map AV.cells) (cap := len) (size := n) (e := e) (cur := cells) (below_alloc w _) (heap_new w _) (by omega) (by
            have : len * 1 ≤ len * n := Nat.mul_le_mul_left _ s3
            have h4 : len * n ≤ 16777216 := by rw [← hpl, ← hul]; exact s4
            unfold maxLen; omega) (sizesOk_mem s1) (by simp at hcl; rw [hcl, hul, hpl]) (by rw [htk]; exact f2) (by rw [htk]; exact hones)
        refine ⟨_, _, _, hrun, d1.trans b3, b1, ?_, below_of hi (below_alloc w _)⟩
        rw [List.length_map] at b2
        rw [show len = us.length by omega] at b2 ⊢
        exact b2
      · simp only [Option.some.injEq, Prod.mk.injEq] at hev
        obtain ⟨rfl, rfl⟩ := hev
        obtain ⟨E, e1, e2, e3⟩ := add_frozen (e := e) d2 (sizesOk_mem s1) f2 hones
        refine ⟨_, _, _, hrun, d1.trans e1, e2, ?_, below_of hi (below_alloc w _)⟩
        rw [hlen]; exact e3
    · cases hev

end
end Go.Proofs.YtmjdgpiofhildaaDoor
