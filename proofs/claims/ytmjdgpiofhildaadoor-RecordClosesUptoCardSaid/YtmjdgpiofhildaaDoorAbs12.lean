/- All operations that make or turn something. -/
import Derived.Test.YtmjdgpiofhildaaDoorAbs11
namespace Go.Proofs.YtmjdgpiofhildaaDoor
open Go.RowKit
section
variable {P : Program} {B : Base} {C D : Cx} {h : Heap} {w w' : World} {G : Gam}

def World.put (w : World) (b : Nat) (o : Obj) : World := { w with heap := w.heap.setIfInBounds b o }

theorem put_same {b : Nat} {o o' : Obj} (hb : w.heap[b]? = some o') : (World.put w b o).heap[b]? = some o := by
  simp [World.put, Array.getElem?_setIfInBounds, heap_lt hb]
theorem put_other {b k : Nat} {o : Obj} (hk : k ≠ b) : (World.put w b o).heap[k]? = w.heap[k]? := by
  simp only [World.put, Array.getElem?_setIfInBounds]
  rw [if_neg (fun e => hk e.symm)]
theorem put_size {b : Nat} {o : Obj} : (World.put w b o).heap.size = w.heap.size := by simp [World.put]
theorem put_below {b : Nat} {o : Obj} (hb : B ≤ b) : Below B w (World.put w b o) := ⟨rfl, rfl, rfl, by rw [put_size]; exact Nat.le_refl _, fun k hk => put_other (by omega)⟩
theorem put_cell {b k o : Nat} {x : Obj} {u : Value} (hk : k ≠ b) (hc : w.cell? ⟨k, o, none⟩ = some u) : (World.put w b x).cell? ⟨k, o, none⟩ = some u := by
  simp only [World.cell?] at hc ⊢
  rw [put_other hk]; exact hc

/-- A map or an iterator turns. -/
theorem turn_obj (hi : Inv B C h w) {l b : Nat} {blk blk' : Blk} {o o' : Obj} (hl : h[l]? = some blk) (hb : C.bl l = some b) (hbo : blockOf C l blk = some b) (hob : w.heap[b]? = some o) (hnc : ∀ c e f, o ≠ .cells c e f) (hB : B ≤ b)
    (hok : BlkOK B C (World.put w b o') l blk') (hbo' : ∀ b', blockOf C l blk' = some b' → b' = b) (hna : ∀ sz ver rows wr, blk' ≠ .arr sz ver rows wr) :
    Inv B C (h.set l blk') (World.put w b o') := by
  refine hi.turn hl (.refl C) (by rw [put_size]; exact Nat.le_refl _) (fun b' hb' _ => ⟨put_other (fun e => hb' (by rw [hbo, e])), fun _ => rfl⟩) (fun b' o2 u hu => ?_) hi.one hok (fun b' hb' => .inl (by rw [hbo, hbo' b' hb'])) hi.fr (fun k sz ver rows wr hk v hv => ?_)
  · have hc := hi.im _ _ _ hu
    have hne : b' ≠ b := fun e => by
      subst e
      simp only [World.cell?, hob] at hc
      cases o <;> simp at hc
      rename_i c e f
      exact hnc c e f rfl
    exact put_cell hne hc
  · rw [List.getElem?_set] at hk
    split at hk
    · split at hk
      · injection hk with hk; exact absurd hk (hna _ _ _ _)
      · cases hk
    · exact hi.fv k sz ver rows wr hk v hv

theorem key_any {e : EK} {k : AV} {y : Value} (h : isKey e k = true) (hr : Rel C k y) : Rel D k y := by
  cases e <;> cases k <;> simp only [isKey] at h <;> (first | cases h | skip)
  · rw [bool_inv hr]; exact .bool _
  · rw [int_inv hr]; exact .int _ _
  · rw [str_inv hr]; exact .str _

def KeyTy (e : EK) (d : TypeDesc) : Prop := match e with | .s => d = .string | .i => ∃ q, d = .int q | .b => d = .bool
theorem keyKind_spec' {kt : TypeId} {e : EK} (h : keyKind P kt = some e) : ∃ d, P.underlying kt = some d ∧ KeyTy e d := by
  obtain ⟨d, h1, h2⟩ := keyKind_spec h
  exact ⟨d, h1, by cases e <;> exact h2⟩

theorem mapup_sound (hi : Inv B C h w) {t kt et : TypeId} {e : EK} (ht : P.underlying t = some (.map kt et)) (hk : keyKind P kt = some e) {l : Nat} {k v u : AV} {x y z : Value} {h1 : Heap} {es es' : List (AV × AV)}
    (hx : Rel C (.map l) x) (hy : Rel C k y) (hz : Rel C v z) (hkey : isKey e k = true) (hf : frz h v = some (u, h1)) (hl : h1[l]? = some (.map es)) (hp : mput e k u es = some es') :
    ∃ D w', (Instr.mapUpdate t x y z).run P w = .ok () w' ∧ C.Le D ∧ Inv B D (h1.set l (.map es')) w' ∧ Below B w w' := by
  obtain ⟨D, d1, d2, d3, d4, d5⟩ := frz_sound hi hf hz
  obtain ⟨d, hkd, hd⟩ := keyKind_spec' hk
  have hd' : (match (generalizing := false) e with | .s => d = .string | .i => ∃ q, d = .int q | .b => d = .bool) := by cases e <;> exact hd
  cases hx with
  | map _ b hb =>
    obtain ⟨b', ms, ck, a1, a2, a3, a4, a5⟩ := d2.ok l _ hl
    rw [d4, hb] at a1; injection a1 with a1; subst a1
    have hbD : D.bl l = some b := by rw [d4]; exact hb
    have hyp : Rel (Cx.pure D.im) k y := key_any hkey hy
    have hlen : es.length = ms.toList.length := by simpa using a4
    rcases mput_now hd' hyp d3 es ms.toList 0 es' hlen (fun i k v m p q => a5 i k v m p (by simpa using q)) hp with ⟨i, u0, key, b1, b2, b3, b4, b5, b6⟩ | ⟨b1, b2⟩
    · have hrun : (Instr.mapUpdate t (.map (some b)) y z).run P w = .ok () (World.put w b (.map (ms.modify i fun m => { m with key := y, val := z }) ck)) := by
        have hg : (ms[i]?).map (·.key) = some key := by simpa using b2
        simp only [Instr.mapUpdate, Sem.run_bind, run_underlying ht, Result.andThen_ok, getObj, Sem.run, a3, run_checkKey hd' hkd, Instr.findKey, run_underlying hkd, b1, Sem.run_pure, Nat.zero_add]
        simp [hg, Instr.keyThatStays, b3, setObj, Sem.run, a3, World.put]
      refine ⟨D, _, hrun, d1, turn_obj d2 hl hbD (by simp [blockOf, hbD]) a3 (fun c e f => by simp) a2 ?_ (fun b' hb' => by simp [blockOf, hbD] at hb'; exact hb'.symm) (fun _ _ _ _ => by simp), put_below a2⟩
      refine ⟨b, _, ck, hbD, a2, put_same a3, ?_, fun j k v m p q => ?_⟩
      · simpa using b5
      · refine b6 j k v m p ?_
        rw [← Array.toList_modify, Array.getElem?_toList]; exact q
    · subst b2
      have hrun : (Instr.mapUpdate t (.map (some b)) y z).run P w = .ok () (World.put w b (.map (ms.push { key := y, val := z, born := ck }) (ck + 1))) := by
        simp only [Instr.mapUpdate, Sem.run_bind, run_underlying ht, Result.andThen_ok, getObj, Sem.run, a3, run_checkKey hd' hkd, Instr.findKey, run_underlying hkd, b1, Sem.run_pure]
        simp [setObj, Sem.run, a3, World.put]
      refine ⟨D, _, hrun, d1, turn_obj d2 hl hbD (by simp [blockOf, hbD]) a3 (fun c e f => by simp) a2 ?_ (fun b' hb' => by simp [blockOf, hbD] at hb'; exact hb'.symm) (fun _ _ _ _ => by simp), put_below a2⟩
      refine ⟨b, _, ck + 1, hbD, a2, put_same a3, by simp [a4], fun j k' v' m p q => ?_⟩
      by_cases hj : j < es.length
      · rw [List.getElem?_append_left hj] at p
        rw [Array.getElem?_push, if_neg (by omega)] at q
        exact a5 j k' v' m p q
      · rw [List.getElem?_append_right (by omega)] at p
        have hj0 : j - es.length = 0 := by
          rcases Nat.eq_zero_or_pos (j - es.length) with e | e
          · exact e
          · rw [List.getElem?_eq_none (by simp; omega)] at p; cases p
        rw [hj0] at p; simp at p
        obtain ⟨rfl, rfl⟩ := p
        rw [Array.getElem?_push, if_pos (by omega)] at q
        injection q with q; subst q
        exact ⟨hyp, d3⟩

theorem zero_cells {e : TypeId} {z : List AV} (hz : tzero P e = some z) : z.all oneC = true := by
  unfold tzero at hz
  cases hi : P.info? e with
  | none => simp [hi] at hz
  | some i =>
    cases hzz : i.zero with
    | none => simp [hi, hzz] at hz
    | some zv =>
      simp [hi, hzz] at hz
      have : ∀ (vs : List Value) (as : List AV), ofCells vs = some as → as.all oneC = true := by
        intro vs
        induction vs with
        | nil => intro as h; simp [ofCells] at h; subst h; rfl
        | cons v vs ih =>
          intro as h
          simp only [ofCells] at h
          split at h
          · rename_i a as' h1 h2
            injection h with h; subst h
            simp only [List.all_cons, ih as' h2, Bool.and_true]
            unfold ofCell at h1
            split at h1 <;> (first | cases h1 | skip) <;> rfl
          · cases h
      exact this _ _ hz

theorem zero_pure {e : TypeId} {z : List AV} (hz : tzero P e = some z) (I : Nat → Nat → Option Value) : ∃ i zv, P.info? e = some i ∧ i.zero = some zv ∧ RelL (Cx.pure I) z zv.cells.toList := tzero_rel hz

theorem madeCells_list (z : Array Value) (n : Nat) (hz : 0 < z.size) : (madeCells z (n * z.size)).toList = (List.replicate n z.toList).flatten := by
  apply List.ext_getElem?
  intro k
  by_cases hk : k < n * z.size
  · have hq : k / z.size < n := Nat.div_lt_of_lt_mul (by rwa [Nat.mul_comm] at hk)
    have hm : k % z.size < z.size := Nat.mod_lt _ hz
    have h1 : (madeCells z (n * z.size)).toList[k]? = some z[k % z.size] := by
      simp [madeCells, hk]
      rw [getElem!_pos z (k % z.size) hm]
    rw [h1]
    have key : ∀ (n q r : Nat), q < n → r < z.size → ((List.replicate n z.toList).flatten)[q * z.size + r]? = z.toList[r]? := by
      intro n
      induction n with
      | zero => intro q r h; omega
      | succ n ih =>
        intro q r h hr
        rw [List.replicate_succ, List.flatten_cons]
        cases q with
        | zero => rw [List.getElem?_append_left (by simpa using hr)]; simp
        | succ q =>
          rw [List.getElem?_append_right (by simp; rw [Nat.add_mul]; omega)]
          simp only [Array.length_toList]
          rw [show (q + 1) * z.size + r - z.size = q * z.size + r by rw [Nat.add_mul]; omega]
          exact ih q r (by omega) hr
    have := key n (k / z.size) (k % z.size) hq hm
    rw [Nat.mul_comm, Nat.div_add_mod] at this
    rw [this]; simp [hm]
  · rw [List.getElem?_eq_none (by simp [madeCells]; omega), List.getElem?_eq_none (by simp; omega)]

theorem mksl_sound (hi : Inv B C h w) {t e : TypeId} {z : List AV} {bytes n : Nat} (ht : P.underlying t = some (.slice e)) (hz : tzero P e = some z) (hb : tbytes P e = some bytes) (hn : tsize P e = some n) (hzl : z.length = n) (h0 : 0 < n)
    {k1 k2 : IntKind} {l c : Int} (c0 : 0 ≤ l) (c1 : l ≤ c) (c2 : c.toNat * bytes ≤ byteMax) (c3 : c.toNat ≤ byteMax) :
    ∃ D, (Instr.makeSlice t (.int k1 l) (.int k2 c)).run P w = .ok (.slice (some ⟨w.heap.size, 0, none⟩) l.toNat c.toNat) (w.alloc (.cells (madeCells (((P.info? e).bind (·.zero)).getD undef).cells (c.toNat * n)) e)) ∧
      C.Le D ∧ Inv B D (h ++ [.arr z.length 0 (List.replicate l.toNat z) true]) (w.alloc (.cells (madeCells (((P.info? e).bind (·.zero)).getD undef).cells (c.toNat * n)) e)) ∧ Rel D (.own h.length 0 l.toNat) (.slice (some ⟨w.heap.size, 0, none⟩) l.toNat c.toNat) := by
  obtain ⟨i, zv, hii, hzz, hzr⟩ := zero_pure hz C.im
  have hsize : i.size = n := by simpa [tsize, hii] using hn
  have hbytes : i.bytes = bytes := by simpa [tbytes, hii] using hb
  have hzs : zv.cells.size = n := by have := hzr.1; simp at this; omega
  have hzg : (((P.info? e).bind (·.zero)).getD undef) = zv := by simp [hii, hzz]
  rw [hzg]
  have hb1 : (i.bytes : Int) * c ≤ 281474976710656 := by
    rw [hbytes]
    unfold byteMax at c2
    have hc : c = (c.toNat : Int) := by omega
    rw [hc, ← Int.natCast_mul, Nat.mul_comm]
    omega
  have hrun := run_make (P := P) w t e i zv ht hii hzz k1 k2 l c c0 c1 hb1 (by unfold byteMax at c3; omega)
  rw [hsize] at hrun
  have hflat : ∀ m, RelL (Cx.pure C.im) (List.replicate m z).flatten (List.replicate m zv.cells.toList).flatten := by
    intro m
    induction m with
    | zero => exact .nil
    | succ m ih => rw [List.replicate_succ, List.replicate_succ, List.flatten_cons, List.flatten_cons]; exact hzr.append ih
  have hml : (madeCells zv.cells (c.toNat * n)).toList = (List.replicate c.toNat zv.cells.toList).flatten := by
    rw [← hzs]; exact madeCells_list _ _ (by omega)
  have htake : (madeCells zv.cells (c.toNat * n)).toList.take (l.toNat * n) = (List.replicate l.toNat zv.cells.toList).flatten := by
    rw [hml, show c.toNat = l.toNat + (c.toNat - l.toNat) by omega, ← List.replicate_append_replicate, List.flatten_append]
    have hll : ((List.replicate l.toNat zv.cells.toList).flatten).length = l.toNat * n := by simp [hzs]
    rw [List.take_append_of_le_length (by omega), List.take_of_length_le (by omega)]
  obtain ⟨b1, b2, b3⟩ := add_arr hi (rows := List.replicate l.toNat z) (cap := c.toNat) (size := n) (e := e) (cur := madeCells zv.cells (c.toNat * n)) (below_alloc w _) (heap_new w _) (by simp; omega) (by unfold byteMax at c3; unfold maxLen; omega)
    (fun row hr => by rw [List.eq_of_mem_replicate hr]; exact hzl) (by rw [size_madeCells]) (by rw [List.length_replicate, htake]; exact hflat _) (fun u hu => by
      rw [List.length_replicate, htake] at hu
      obtain ⟨l', h1, h2⟩ := List.mem_flatten.1 hu
      rw [List.eq_of_mem_replicate h1] at h2
      exact onesC_rel hzr (zero_cells hz) u h2)
  rw [List.length_replicate] at b2
  exact ⟨_, hrun, b3, by rw [hzl]; exact b1, b2⟩

end
end Go.Proofs.YtmjdgpiofhildaaDoor
