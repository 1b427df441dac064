/- append, make, slice literals; then all operations that make or turn something. -/
import Derived.Test.YtmjdgpiofhildaaDoorAbs10
namespace Go.Proofs.YtmjdgpiofhildaaDoor
open Go.RowKit
section
variable {P : Program} {B : Base} {C D : Cx} {h : Heap} {w w' : World} {G : Gam}

theorem flat_cells {b size : Nat} : ∀ (rows : List (List AV)) (o : Nat) (us : Nat → Nat → Value), (∀ row ∈ rows, row.length = size) →
    (∀ (i : Nat) row (j : Nat) c, rows[i]? = some row → row[j]? = some c → C.im b (o + i * size + j) = some (us i j)) → (∀ (i : Nat) row (j : Nat) c, rows[i]? = some row → row[j]? = some c → Rel (Cx.pure C.im) c (us i j)) →
    ∃ l, RelL (Cx.pure C.im) rows.flatten l ∧ ∀ (j : Nat) u, l[j]? = some u → C.im b (o + j) = some u
  | [], o, us, _, _, _ => ⟨[], .nil, fun j u hj => by simp at hj⟩
  | r :: rs, o, us, hs, hc, hr => by
    obtain ⟨l, h1, h2⟩ := flat_cells rs (o + size) (fun i j => us (i + 1) j) (fun x hx => hs x (by simp [hx]))
      (fun i row j c x y => by
        have := hc (i + 1) row j c (by simpa using x) y
        rwa [show o + (i + 1) * size + j = o + size + i * size + j by rw [Nat.add_mul]; omega] at this)
      (fun i row j c x y => hr (i + 1) row j c (by simpa using x) y)
    have hrl : r.length = size := hs r (by simp)
    refine ⟨(List.range r.length).map (us 0) ++ l, ?_, fun j u hj => ?_⟩
    · rw [List.flatten_cons]
      exact (row_rel (fun j c hj => hr 0 r j c rfl hj)).append h1
    · by_cases hlt : j < r.length
      · rw [List.getElem?_append_left (by simpa using hlt), List.getElem?_map, List.getElem?_range hlt] at hj
        simp at hj; subst hj
        have := hc 0 r j r[j] rfl (by simp [hlt])
        simpa using this
      · rw [List.getElem?_append_right (by simpa using Nat.le_of_not_lt hlt)] at hj
        have := h2 _ u hj
        simp at this
        rwa [show o + size + (j - r.length) = o + j by omega] at this

/-- What an operand of append yields. -/
theorem src_of (hi : Inv B C h w) {tx : TypeId} {size : Nat} {str : Bool} {a : AV} {x : Value} {new : List (List AV)} (hx : Rel C a x) (ha : appRows h str a = some new) (hs : sizesOk size new = true)
    (hk : str = true → P.underlying tx = some .string ∧ size = 1) (hk' : str = false → ∃ e, P.underlying tx = some (.slice e)) :
    ∃ news, Src P size tx x new.length news w ∧ RelL (Cx.pure C.im) new.flatten news := by
  have hall := sizesOk_all hs
  have hfl := flatten_len new hall
  have slice : ∀ (rows : List (List AV)), rows = new → Rel C (.sl rows) x → str = false → ∃ news, Src P size tx x new.length news w ∧ RelL (Cx.pure C.im) new.flatten news := by
    rintro rows rfl hr hns
    obtain ⟨e, hu⟩ := hk' hns
    cases hr with
    | slnil => exact ⟨[], Src.ofNil w hu 0, .nil⟩
    | slz a cap => exact ⟨[], Src.ofSlice w hu a 0 cap [] (by simp) (fun j u hj => by simp at hj) (fun u hu => by simp at hu), .nil⟩
    | sl _ b o cap size' us hcap h1 h2 h3 =>
      obtain ⟨l, k1, k2⟩ := flat_cells (size := size) rows o us hall (fun i row j c x y => by
        have := h2 i row j c x y
        rwa [← h1 i row x, hall row (List.mem_of_getElem? x)] at this) h3
      have hl := k1.1
      refine ⟨l, Src.ofSlice w hu ⟨b, o, none⟩ rows.length cap l (by rw [← hl, hfl]) (fun j u hj => by rw [Addr.add_lit]; exact hi.im _ _ _ (k2 j u hj)) (fun u hu => ?_), k1⟩
      obtain ⟨j, hj⟩ := List.mem_iff_getElem?.1 hu
      exact hi.one _ _ _ (k2 j u hj)
  cases str with
  | true =>
    simp only [appRows, if_true] at ha
    split at ha
    · rename_i s
      injection ha with ha; subst ha
      obtain ⟨hu, rfl⟩ := hk rfl
      have := str_inv hx; subst this
      refine ⟨byteCells ⟨s.toArray⟩, ?_, ?_, fun i c u hc hu' => ?_⟩
      · have := Src.ofString (P := P) w hu ⟨s.toArray⟩
        rw [size_ba] at this
        simpa using this
      · rw [byteCells_length, size_ba]; simpa using hfl
      · have hf : (s.map fun b => ([AV.int .u8 b.toNat] : List AV)).flatten = s.map fun b => AV.int .u8 b.toNat := by
          clear hx hs hall hfl hc hu' hk hk' slice
          induction s with
          | nil => rfl
          | cons b s ih => simp [ih]
        rw [hf, List.getElem?_map] at hc
        simp only [byteCells, List.getElem?_map] at hu'
        cases hsi : s[i]? with
        | none => simp [hsi] at hc
        | some b =>
          simp [hsi] at hc hu'
          subst hc hu'
          exact .int _ _
    · cases ha
  | false =>
  simp only [appRows, Bool.false_eq_true, if_false] at ha
  cases a with
  | sl rows => simp only [rowsOf, Option.some.injEq] at ha; exact slice rows ha hx rfl
  | tsl rows => simp only [rowsOf, Option.some.injEq] at ha; exact slice rows ha (rel_tsl_sl hx) rfl
  | nils =>
    simp only [rowsOf, Option.some.injEq] at ha; subst ha
    obtain ⟨e, hu⟩ := hk' rfl
    cases hx
    exact ⟨[], Src.ofNil w hu 0, .nil⟩
  | own l ver n =>
    simp only [rowsOf] at ha
    obtain ⟨e, hu⟩ := hk' rfl
    split at ha
    · rename_i sz ver' rows wr hl
      split at ha
      · rename_i hc
        obtain ⟨rfl, hn⟩ := hc
        injection ha with ha; subst ha
        have hlen : (rows.take n).length = n := by simp; omega
        cases hx with
        | ownnil _ _ h1 => simp; exact ⟨[], Src.ofNil w hu 0, .nil⟩
        | own _ _ _ r h1 hcap =>
          rcases hi.ok l _ hl with ⟨k1, _⟩ | ⟨r', cur, k1, k2, k3, k4, k5, k6, k7, k8, k8', _⟩
          · rw [h1] at k1; cases k1
          · rw [h1] at k1; injection k1 with k1; injection k1 with k1; subst k1
            have hm : n * r.size ≤ rows.length * r.size := Nat.mul_le_mul_right _ hn
            have hm2 : rows.length * r.size ≤ cur.size := by rw [k7]; exact Nat.mul_le_mul_right _ k3
            have hfr : (rows.take n).flatten = rows.flatten.take (n * r.size) := by
              have e1 : rows.flatten = (rows.take n).flatten ++ (rows.drop n).flatten := by rw [← List.flatten_append, List.take_append_drop]
              have e2 : (rows.take n).flatten.length = n * r.size := by rw [flatten_len (n := r.size) _ (fun x hx => k5 x (List.mem_of_mem_take hx)), hlen]
              conv => rhs; rw [e1, List.take_append, List.take_of_length_le (by omega), e2, Nat.sub_self]
              simp
            have hrel : RelL (Cx.pure C.im) (rows.take n).flatten (cur.toList.take (n * r.size)) := by
              rw [hfr]
              have := k8.take (n * r.size)
              rwa [List.take_take, Nat.min_eq_left hm] at this
            have hll := hrel.1
            rw [hlen]
            refine ⟨_, Src.ofSlice w hu ⟨r.block, 0, none⟩ n r.cap (cur.toList.take (n * r.size)) (by rw [← hll, hfl, hlen]) (fun j u hj => ?_) (fun u hu => k8' u ?_), hrel⟩
            · rw [Addr.add_lit, cell_of_heap k6, Nat.zero_add]
              rw [List.getElem?_take] at hj
              split at hj
              · simpa using hj
              · cases hj
            · obtain ⟨j, hj⟩ := List.mem_iff_getElem?.1 hu
              rw [List.getElem?_take] at hj
              split at hj
              · exact List.mem_of_getElem? (i := j) (by rw [List.getElem?_take, if_pos (by omega)]; exact hj)
              · cases hj
      · cases ha
    · cases ha
  | _ => simp [rowsOf] at ha

theorem run_append_none {t tx ty e : TypeId} {i : TypeInfo} (ht : P.underlying t = some (.slice e)) (hi : P.info? e = some i) {base : Option Addr} {sLen sCap : Nat} {x : Value} {news : List Value} (hs : Src P i.size tx x 0 news w) (hle : sLen ≤ sCap) :
    (Builtin.append_ #[t, tx] ty #[.slice base sLen sCap, x]).run P w = .ok (.slice base sLen sCap) w := by
  have hn : news = [] := List.eq_nil_of_length_eq_zero (by rw [hs.newsLen]; simp)
  subst hn
  have hcells := hs.cells
  rcases hs.kind with ⟨e', hk⟩ | hk <;> cases base <;> simp [Builtin.append_, run_underlying ht, run_underlying hk, sizeOf, typeInfo, hi, hs.len, hle, hcells, storeCells]

theorem setCells_heap {b : Nat} {e : TypeId} : ∀ (vs : List Value) (o : Nat) (w : World) (cur : Array Value), w.heap[b]? = some (.cells cur e (0, 0)) → o + vs.length ≤ cur.size →
    (w.setCells b o vs).heap[b]? = some (.cells (cur.toList.take o ++ vs ++ cur.toList.drop (o + vs.length)).toArray e (0, 0))
  | [], o, w, cur, hg, hl => by simpa [World.setCells] using hg
  | v :: vs, o, w, cur, hg, hl => by
    simp only [List.length_cons] at hl
    have h1 := heap_setCell_same w b o cur e v hg
    have := setCells_heap vs (o + 1) (w.setCell ⟨b, o, none⟩ v) _ h1 (by simp; omega)
    simp only [World.setCells]
    rw [this]
    congr 2
    apply Array.ext'
    simp only [List.toList_toArray, Array.toList_setIfInBounds]
    rw [List.take_add_one, List.take_set_of_le (Nat.le_refl _), List.getElem?_set_self (by simp; omega), List.drop_set_of_lt (by omega)]
    rw [show o + 1 + vs.length = o + (v :: vs).length by rw [List.length_cons]; omega]
    simp

theorem setCells_other (b : Nat) : ∀ (vs : List Value) (o : Nat) (w : World) (k : Nat), k ≠ b → (w.setCells b o vs).heap[k]? = w.heap[k]?
  | [], _, _, _, _ => rfl
  | v :: vs, o, w, k, hk => by
    simp only [World.setCells]
    rw [setCells_other b vs (o + 1) _ k hk, heap_setCell_other w ⟨b, o, none⟩ k v hk]
theorem setCells_size (b : Nat) : ∀ (vs : List Value) (o : Nat) (w : World), (w.setCells b o vs).heap.size = w.heap.size
  | [], _, _ => rfl
  | v :: vs, o, w => by simp only [World.setCells]; rw [setCells_size b vs]; simp [World.setCell]
theorem setCells_below {b : Nat} (hb : B ≤ b) : ∀ (vs : List Value) (o : Nat) (w : World), Below B w (w.setCells b o vs)
  | [], _, w => Below.refl _ _
  | v :: vs, o, w => by simp only [World.setCells]; exact ((Below.refl _ _).setCell (p := ⟨b, o, none⟩) hb v).trans (setCells_below hb vs (o + 1) _)

/-- An append that makes a new row. -/
theorem grow_run {t tx ty e : TypeId} {i : TypeInfo} {z : Value} (ht : P.underlying t = some (.slice e)) (hi : P.info? e = some i) (hz : i.zero = some z) (hzs : z.cells.size = i.size) {base : Option Addr} {sLen sCap : Nat} {olds : List Value}
    (hold : (Builtin.firstCells i.size sLen (.slice base sLen sCap)).run P w.drew = .ok olds.toArray w.drew) (holdl : olds.length = sLen * i.size) {x : Value} {n : Nat} {news : List Value} (hs : Src P i.size tx x n news w)
    (hg : sCap < sLen + n) (hb : (sLen + n) * i.bytes ≤ byteMax) (hm : sLen + n ≤ byteMax) :
    ∃ (cap : Nat) (cur : Array Value), sLen + n ≤ cap ∧ cap ≤ maxLen ∧ cur.size = cap * i.size ∧ cur.toList.take ((sLen + n) * i.size) = olds ++ news ∧
      (Builtin.append_ #[t, tx] ty #[.slice base sLen sCap, x]).run P w = .ok (.slice (some ⟨w.heap.size, 0, none⟩) (sLen + n) cap) (w.drew.alloc (.cells cur e)) := by
  have h63 : sLen + n ≤ maxLen := by unfold byteMax at hm; unfold maxLen; omega
  refine ⟨grownCap w (sLen + n) sCap e, ((olds ++ news).toArray ++ Builtin.zeroCells z.cells (grownCap w (sLen + n) sCap e - (sLen + n))), grownCap_ge w _ _ _, grownCap_le_maxLen w _ _ _ h63, ?_, ?_,
    run_append_grow_src w t tx ty e i z ht hi hz base sLen sCap olds hold x n news hs hg (by unfold maxLen at h63; omega) (growslice_fits hg hb)⟩
  · have hge := grownCap_ge w (sLen + n) sCap e
    have hnl := hs.newsLen
    rw [Array.size_append, size_zeroCells, hzs]
    simp only [List.size_toArray, List.length_append, holdl, hnl]
    rw [← Nat.add_mul, ← Nat.add_mul]
    congr 1; omega
  · have hnl := hs.newsLen
    rw [Array.toList_append]
    simp only [List.toList_toArray]
    rw [List.take_append, List.take_of_length_le (by rw [List.length_append, holdl, hnl, Nat.add_mul]; exact Nat.le_refl _)]
    rw [List.length_append, holdl, hnl, ← Nat.add_mul, Nat.sub_self]; simp

theorem below_da (w : World) (o : Obj) : Below w.heap.size w (w.drew.alloc o) := (below_drew w).alloc (Nat.le_refl _) o

theorem app_sound (hi : Inv B C h w) {t tx ty e : TypeId} {n bytes : Nat} {z : List AV} (ht : P.underlying t = some (.slice e)) (hn : tsize P e = some n) (hb : tbytes P e = some bytes) (hz : tzero P e = some z) (hzl : z.length = n)
    {s a v : AV} {sv x : Value} {h' : Heap} {new : List (List AV)} {str : Bool} (hs : Rel C s sv) (hx : Rel C a x) (ha : appRows h str a = some new) (hsz : sizesOk n new = true)
    (hkk : str = true → P.underlying tx = some .string ∧ n = 1) (hkk' : str = false → ∃ e, P.underlying tx = some (.slice e))
    (hev : appAV n bytes h s new = some (v, h')) :
    ∃ u D w', (Builtin.append_ #[t, tx] ty #[sv, x]).run P w = .ok u w' ∧ C.Le D ∧ Inv B D h' w' ∧ Rel D v u ∧ Below B w w' := by
  obtain ⟨i, zv, hii, hzz, hzr⟩ := tzero_rel (C := C) hz
  have hsize : i.size = n := by simpa [tsize, hii] using hn
  have hbytes : i.bytes = bytes := by simpa [tbytes, hii] using hb
  have hzs : zv.cells.size = i.size := by have := hzr.1; simp at this; omega
  obtain ⟨news, hsrc, hrel⟩ := src_of hi hx ha hsz hkk hkk'
  rw [← hsize] at hsrc
  have hnl := hsrc.newsLen
  have hall := sizesOk_all hsz
  have none_case : ∀ (hnew : new = []) (base : Option Addr) (sLen sCap : Nat), sv = .slice base sLen sCap → sLen ≤ sCap → (Builtin.append_ #[t, tx] ty #[sv, x]).run P w = .ok sv w := by
    rintro rfl base sLen sCap rfl hle
    exact run_append_none ht hii hsrc hle
  have flatApp : ∀ rows : List (List AV), (rows ++ new).flatten = rows.flatten ++ new.flatten := fun rows => List.flatten_append
  -- a new array
  have fresh : ∀ (rows : List (List AV)) (base : Option Addr) (sCap : Nat) (olds : List Value), sv = .slice base rows.length sCap → sCap < rows.length + new.length → (∀ row ∈ rows, row.length = n) → olds.length = rows.length * n → RelL (Cx.pure C.im) rows.flatten olds → (∀ u ∈ olds, u.oneCell' = true) →
      (Builtin.firstCells n rows.length (.slice base rows.length sCap)).run P w.drew = .ok olds.toArray w.drew → (rows.length + new.length) * bytes ≤ byteMax → rows.length + new.length ≤ byteMax →
      ∃ (cap : Nat) (cur : Array Value), rows.length + new.length ≤ cap ∧ cap ≤ maxLen ∧ cur.size = cap * n ∧ (∀ row ∈ rows ++ new, row.length = n) ∧ RelL (Cx.pure C.im) (rows ++ new).flatten (cur.toList.take ((rows ++ new).length * n)) ∧ (∀ u ∈ cur.toList.take ((rows ++ new).length * n), u.oneCell' = true) ∧
        (Builtin.append_ #[t, tx] ty #[sv, x]).run P w = .ok (.slice (some ⟨w.heap.size, 0, none⟩) (rows.length + new.length) cap) (w.drew.alloc (.cells cur e)) := by
    rintro rows base sCap olds rfl hg hrows hol hor hoo hold hB hM
    obtain ⟨cap, cur, a1, a2, a3, a4, a5⟩ := grow_run (P := P) (w := w) (ty := ty) ht hii hzz hzs (by rw [hsize]; exact hold) (by rw [hsize]; exact hol) hsrc hg (by rw [hbytes]; exact hB) hM
    rw [hsize] at a3 a4
    refine ⟨cap, cur, a1, a2, a3, fun row hr => ?_, ?_, fun u hu => ?_, a5⟩
    · rcases List.mem_append.1 hr with hr | hr
      · exact hrows row hr
      · exact hall row hr
    · rw [List.length_append, a4, flatApp]; exact hor.append hrel
    · rw [List.length_append, a4] at hu
      rcases List.mem_append.1 hu with hu | hu
      · exact hoo u hu
      · exact hsrc.one u hu
  cases s with
  | nils =>
    cases hs
    simp only [appAV] at hev
    split at hev
    · rename_i hnew
      injection hev with hev; injection hev with e1 e2; subst e1 e2
      exact ⟨_, C, w, none_case hnew none 0 0 rfl (Nat.le_refl _), .refl C, hi, .nils, .refl _ _⟩
    · rename_i hnew
      split at hev
      · rename_i hc
        injection hev with hev; injection hev with e1 e2; subst e1 e2
        have hpos : 0 < new.length := List.length_pos_iff.2 hnew
        obtain ⟨cap, cur, a1, a2, a3, a4, a5, a6, a7⟩ := fresh [] none 0 [] rfl (by simpa using hpos) (by simp) (by simp) .nil (by simp) (by simpa using run_firstCells_none (P := P) w.drew n 0 0 0) (by simpa using hc.1) (by simpa using hc.2)
        simp only [List.nil_append, List.length_nil, Nat.zero_add] at a1 a4 a5 a6 a7
        obtain ⟨b1, b2, b3⟩ := add_arr hi (below_da w (.cells cur e)) (by simpa using heap_new w.drew (.cells cur e)) a1 a2 a4 a3 a5 a6
        exact ⟨_, _, _, a7, b3, b1, b2, below_of hi (below_da w _)⟩
      · cases hev
  | tsl rows =>
    simp only [appAV] at hev
    split at hev
    · rename_i hnew
      injection hev with hev; injection hev with e1 e2; subst e1 e2
      refine ⟨sv, C, w, ?_, .refl C, hi, hs, .refl _ _⟩
      cases hs with
      | tslnil => exact none_case hnew none 0 0 rfl (Nat.le_refl _)
      | tslz a => exact none_case hnew (some a) 0 0 rfl (Nat.le_refl _)
      | tsl _ b o size us h1 h2 h3 => exact none_case hnew _ _ _ rfl (Nat.le_refl _)
    · rename_i hnew
      split at hev
      · rename_i hc
        obtain ⟨c1, c2, c3⟩ := hc
        injection hev with hev; injection hev with e1 e2; subst e1 e2
        have hpos : 0 < new.length := List.length_pos_iff.2 hnew
        have hrows := sizesOk_all c3
        have key : ∃ base olds, sv = .slice base rows.length rows.length ∧ olds.length = rows.length * n ∧ RelL (Cx.pure C.im) rows.flatten olds ∧ (∀ u ∈ olds, u.oneCell' = true) ∧ (Builtin.firstCells n rows.length (.slice base rows.length rows.length)).run P w.drew = .ok olds.toArray w.drew := by
          cases hs with
          | tslnil => exact ⟨none, [], rfl, by simp, .nil, by simp, by simpa using run_firstCells_none (P := P) w.drew n 0 0 0⟩
          | tslz a => exact ⟨some a, [], rfl, by simp, .nil, by simp, by simpa using run_firstCells_some (P := P) w.drew n 0 a 0 0 [] (by simp) (fun j u hj => by simp at hj)⟩
          | tsl _ b o size us h1 h2 h3 =>
            obtain ⟨l, k1, k2⟩ := flat_cells (size := n) rows o us hrows (fun i row j c x y => by
              have := h2 i row j c x y
              rwa [← h1 i row x, hrows row (List.mem_of_getElem? x)] at this) h3
            have hll := k1.1
            rw [flatten_len rows hrows] at hll
            refine ⟨_, l, rfl, hll.symm, k1, fun u hu => ?_, run_firstCells_some w.drew n rows.length ⟨b, o, none⟩ rows.length rows.length l hll.symm (fun j u hj => by rw [Addr.add_lit]; simpa using hi.im _ _ _ (k2 j u hj))⟩
            obtain ⟨j, hj⟩ := List.mem_iff_getElem?.1 hu
            exact hi.one _ _ _ (k2 j u hj)
        obtain ⟨base, olds, q1, q2, q3, q4, q5⟩ := key
        obtain ⟨cap, cur, a1, a2, a3, a4, a5, a6, a7⟩ := fresh rows base rows.length olds q1 (by omega) hrows q2 q3 q4 q5 c1 c2
        obtain ⟨b1, b2, b3⟩ := add_arr hi (below_da w (.cells cur e)) (by simpa using heap_new w.drew (.cells cur e)) (by rw [List.length_append]; exact a1) a2 a4 a3 a5 a6
        rw [List.length_append] at b2
        exact ⟨_, _, _, a7, b3, b1, b2, below_of hi (below_da w _)⟩
      · cases hev
  | own l ver m =>
    simp only [appAV] at hev
    split at hev
    · rename_i sz ver' rows wr hl
      split at hev
      · rename_i hc
        obtain ⟨rfl, rfl, rfl, rfl⟩ := hc
        split at hev
        · rename_i hnew
          injection hev with hev; injection hev with e1 e2; subst e1 e2
          refine ⟨sv, C, w, ?_, .refl C, hi, hs, .refl _ _⟩
          generalize hm : rows.length = m at hs
          cases hs with
          | ownnil _ _ h1 => exact none_case hnew none 0 0 rfl (Nat.le_refl _)
          | own _ _ _ r h1 hcap => exact none_case hnew _ _ _ rfl hcap
        · rename_i hnew
          split at hev
          · rename_i hc
            obtain ⟨c1, c2⟩ := hc
            injection hev with hev; injection hev with e1 e2; subst e1 e2
            have hpos : 0 < new.length := List.length_pos_iff.2 hnew
            have hfv : C.ar l (ver + new.length) = none := hi.fv l _ ver rows true hl (ver + new.length) (by omega)
            have hll : l < h.length := (List.getElem?_eq_some_iff.1 hl).1
            -- the array at its next version
            have finish : ∀ (r : RowAt) (cur : Array Value) (w' : World), r.size = sz → rows.length + new.length ≤ r.cap → r.cap ≤ maxLen → (∀ row ∈ rows ++ new, row.length = sz) → w'.heap[r.block]? = some (.cells cur r.elem (0, 0)) → cur.size = r.cap * sz → B ≤ r.block →
                RelL (Cx.pure C.im) (rows ++ new).flatten (cur.toList.take ((rows ++ new).length * sz)) → (∀ u ∈ cur.toList.take ((rows ++ new).length * sz), u.oneCell' = true) → (∀ o, C.im r.block o = none) →
                (∀ b, blockOf C l (.arr sz ver rows true) ≠ some b → b < w.heap.size → w'.heap[b]? = w.heap[b]?) → (blockOf C l (.arr sz ver rows true) = some r.block ∨ w.heap.size ≤ r.block) → w.heap.size ≤ w'.heap.size →
                (∀ b o u, C.im b o = some u → w'.cell? ⟨b, o, none⟩ = some u) →
                ∃ D, C.Le D ∧ Inv B D (h.set l (.arr sz (ver + new.length) (rows ++ new) true)) w' ∧ Rel D (.own l (ver + new.length) (rows.length + new.length)) (.slice (some ⟨r.block, 0, none⟩) (rows.length + new.length) r.cap) := by
              intro r cur w' e1 f1 f2 f3 f4 f5 f6 f7 f8 f9 f11 f12 f13 f14
              subst e1
              have he := ext_addAr (w := w) (some r) hfv
              have har : (C.addAr l (ver + new.length) (some r)).ar l (ver + new.length) = some (some r) := by simp [Cx.addAr]
              refine ⟨C.addAr l (ver + new.length) (some r), he.le, ?_, .own _ _ _ r har f1⟩
              refine hi.turn hl he.le f13 (fun b hb hlt => ⟨f11 b hb hlt, fun _ => rfl⟩) f14 hi.one ?_ (fun b hb => ?_) (fun k hk => ?_) (fun k sz2 ver2 rows2 wr2 hk v hv => ?_)
              · exact .inr ⟨r, cur, har, f6, by simpa using f1, f2, f3, f4, f5, f7, f8, fun _ o => f9 o, (fun e => by cases e), rfl⟩
              · simp only [blockOf, har, Option.some.injEq] at hb; subst hb; exact f12
              · have := hi.fr k hk
                refine ⟨this.1, fun v => ?_⟩
                simp only [Cx.addAr]; rw [if_neg (by omega)]; exact this.2 v
              · simp only [Cx.addAr]
                rw [List.getElem?_set] at hk
                by_cases ek : l = k
                · subst ek
                  rw [if_pos rfl, if_pos hll] at hk
                  injection hk with hk; injection hk with hk0 hk; subst hk
                  rw [if_neg (by omega)]
                  exact hi.fv l _ ver rows true hl v (by omega)
                · rw [if_neg ek] at hk
                  rw [if_neg (fun x => ek x.1.symm)]
                  exact hi.fv k sz2 ver2 rows2 wr2 hk v hv
            have unfresh : ∀ o, C.im w.heap.size o = none := fun o => by
              cases hc : C.im w.heap.size o with
              | none => rfl
              | some u => have := cell_lt (hi.im _ _ _ hc); omega
            -- in a new block
            have moved : ∀ (base : Option Addr) (sCap : Nat) (olds : List Value), sv = .slice base rows.length sCap → sCap < rows.length + new.length → (∀ row ∈ rows, row.length = sz) → olds.length = rows.length * sz → RelL (Cx.pure C.im) rows.flatten olds → (∀ u ∈ olds, u.oneCell' = true) →
                (Builtin.firstCells sz rows.length (.slice base rows.length sCap)).run P w.drew = .ok olds.toArray w.drew →
                ∃ u D w', (Builtin.append_ #[t, tx] ty #[sv, x]).run P w = .ok u w' ∧ C.Le D ∧ Inv B D (h.set l (.arr sz (ver + new.length) (rows ++ new) true)) w' ∧ Rel D (.own l (ver + new.length) (rows.length + new.length)) u ∧ Below B w w' := by
              intro base sCap olds q1 q2 q3 q4 q5 q6 q7
              obtain ⟨cap, cur, a1, a2, a3, a4, a5, a6, a7⟩ := fresh rows base sCap olds q1 q2 q3 q4 q5 q6 q7 c1 c2
              obtain ⟨D, b1, b2, b3⟩ := finish ⟨w.heap.size, cap, sz, e⟩ cur _ rfl a1 a2 a4 (by simpa using heap_new w.drew (.cells cur e)) a3 hi.hB a5 a6 unfresh (fun b _ hlt => (below_da w (.cells cur e)).block b hlt) (.inr (Nat.le_refl _)) (below_da w (.cells cur e)).size (im_grow hi (below_da w _))
              exact ⟨_, D, _, a7, b1, b2, b3, below_of hi (below_da w _)⟩
            rcases hi.ok l _ hl with ⟨k1, k2⟩ | ⟨r, cur, k1, k2, k3, k4, k5, k6, k7, k8, k8', k9, k10, k11⟩
            · -- nil so far
              subst k2
              have hsv : sv = .slice none 0 0 := by
                cases hs with
                | ownnil _ _ _ => rfl
                | own _ _ _ r h1 _ => rw [k1] at h1; cases h1
              exact moved none 0 [] hsv (by simpa using hpos) (by simp) (by simp) .nil (by simp) (by simpa using run_firstCells_none (P := P) w.drew sz 0 0 0)
            · subst k11
              have hsv : sv = .slice (some ⟨r.block, 0, none⟩) rows.length r.cap := by
                generalize rows.length = m at hs
                cases hs with
                | ownnil _ _ h1 => rw [k1] at h1; cases h1
                | own _ _ _ r' h1 _ => rw [k1] at h1; injection h1 with h1; injection h1 with h1; subst h1; rfl
              have hblk : blockOf C l (.arr r.size ver rows true) = some r.block := by simp [blockOf, k1]
              have hm2 : rows.length * r.size ≤ cur.size := by rw [k7]; exact Nat.mul_le_mul_right _ k3
              have hfl := flatten_len rows k5
              by_cases hroom : rows.length + new.length ≤ r.cap
              · -- there is room
                have hm3 : (rows.length + new.length) * r.size ≤ cur.size := by rw [k7]; exact Nat.mul_le_mul_right _ hroom
                have hnl' : news.length = new.length * r.size := by rw [hnl, hsize]
                rw [Nat.add_mul] at hm3
                have hnone : Src P i.size tx x new.length news w := hsrc
                have hrun := run_append_room_src (P := P) w t tx ty e i ht hii r.block 0 rows.length r.cap x new.length news hnone hroom
                  (fun j hj => by rw [cell_of_heap k6, hsize]; simp; omega)
                  (fun j hj => by simp [World.frozen?, k6])
                rw [Nat.zero_add, hsize] at hrun
                have hheap := setCells_heap news (rows.length * r.size) w cur k6 (by omega)
                have htk : ((cur.toList.take (rows.length * r.size) ++ news ++ cur.toList.drop (rows.length * r.size + news.length)).toArray).toList.take ((rows ++ new).length * r.size) = cur.toList.take (rows.length * r.size) ++ news := by
                  simp only [List.toList_toArray]
                  rw [List.take_append_of_le_length (by simp; rw [Nat.add_mul]; omega), List.take_of_length_le (by simp; rw [Nat.add_mul]; omega)]
                obtain ⟨D, b1, b2, b3⟩ := finish r _ _ rfl hroom k4 (fun row hr => by
                    rcases List.mem_append.1 hr with hr | hr
                    · exact k5 row hr
                    · exact hall row hr) hheap (by simp; omega) k2 (by rw [htk, flatApp]; exact k8.append hrel) (fun u hu => by
                    rw [htk] at hu
                    rcases List.mem_append.1 hu with hu | hu
                    · exact k8' u hu
                    · exact hsrc.one u hu) (k9 rfl) (fun b hb _ => setCells_other r.block news _ w b (fun e => hb (by rw [hblk, e]))) (.inl hblk) (by rw [setCells_size]; exact Nat.le_refl _) (fun b o u hu => by
                    have hne : b ≠ r.block := fun e => by subst e; rw [k9 rfl o] at hu; cases hu
                    have := hi.im _ _ _ hu
                    simp only [World.cell?] at this ⊢
                    rw [setCells_other r.block news _ w b hne]; exact this)
                exact ⟨_, D, _, by rw [hsv]; exact hrun, b1, b2, b3, setCells_below k2 _ _ _⟩
              · have hol : (cur.toList.take (rows.length * r.size)).length = rows.length * r.size := by simp; omega
                exact moved (some ⟨r.block, 0, none⟩) r.cap (cur.toList.take (rows.length * r.size)) hsv (by omega) k5 hol k8 k8'
                  (run_firstCells_some w.drew r.size rows.length ⟨r.block, 0, none⟩ rows.length r.cap _ hol (fun j u hj => by
                    rw [Addr.add_lit, World.cell?_drew, cell_of_heap k6, Nat.zero_add]
                    rw [List.getElem?_take] at hj
                    split at hj
                    · simpa using hj
                    · cases hj))
          · cases hev
      · cases hev
    · cases hev
  | _ => simp [appAV] at hev

end
end Go.Proofs.YtmjdgpiofhildaaDoor
