/- New places, and places that turn: the invariant goes on. -/
import Derived.Test.YtmjdgpiofhildaaDoorAbs7
namespace Go.Proofs.YtmjdgpiofhildaaDoor
open Go.RowKit
section
variable {P : Program} {B : Base} {C D : Cx} {h : Heap} {w w' : World}

/-- C grown to D, nothing new said of the blocks that were there. -/
structure Ext (w : World) (C D : Cx) : Prop where
  le : C.Le D
  im : ∀ b o, b < w.heap.size → D.im b o = C.im b o

theorem Ext.refl (w : World) (C : Cx) : Ext w C C := ⟨.refl C, fun _ _ _ => rfl⟩

theorem pure_le (h : ∀ b o u, C.im b o = some u → D.im b o = some u) : (Cx.pure C.im).Le (Cx.pure D.im) := ⟨h, (fun _ _ x => by cases x), (fun _ _ _ x => by cases x)⟩

theorem BlkOK.ext {l : Nat} {blk : Blk} (hk : BlkOK B C w l blk) (he : Ext w C D) (hb : Below w.heap.size w w') : BlkOK B D w' l blk := by
  have heap : ∀ b o, w.heap[b]? = some o → w'.heap[b]? = some o := fun b o hc => (hb.block b (heap_lt hc)).trans hc
  have hp := pure_le he.le.im
  cases blk with
  | cells vs =>
    obtain ⟨b, cur, e, h1, h2, h3, h4, h5⟩ := hk
    exact ⟨b, cur, e, he.le.bl _ _ h1, h2, heap _ _ h3, fun o => by rw [he.im b o (heap_lt h3)]; exact h4 o, h5.mono he.le⟩
  | arr sz ver rows wr =>
    rcases hk with ⟨h1, h2⟩ | ⟨r, cur, h1, h2, h3, h4, h5, h6, h7, h8, h8', h9, h10, h11⟩
    · exact .inl ⟨he.le.ar _ _ _ h1, h2⟩
    · refine .inr ⟨r, cur, he.le.ar _ _ _ h1, h2, h3, h4, h5, heap _ _ h6, h7, h8.mono hp, h8', fun e o => by rw [he.im _ o (heap_lt h6)]; exact h9 e o, fun e j u hj hu => he.le.im _ _ _ (h10 e j u hj hu), h11⟩
  | map es =>
    obtain ⟨b, ms, ck, h1, h2, h3, h4, h5⟩ := hk
    exact ⟨b, ms, ck, he.le.bl _ _ h1, h2, heap _ _ h3, h4, fun i k v m x y => ⟨(h5 i k v m x y).1.mono hp, (h5 i k v m x y).2.mono hp⟩⟩
  | iter s pos =>
    obtain ⟨b, h1, h2, h3⟩ := hk
    exact ⟨b, he.le.bl _ _ h1, h2, heap _ _ h3⟩
  | dead => trivial

theorem blockOf_ext {l : Nat} {blk : Blk} (hk : BlkOK B C w l blk) (he : C.Le D) : blockOf D l blk = blockOf C l blk := by
  cases blk with
  | cells vs =>
    obtain ⟨b, cur, e, h1, _⟩ := hk
    simp [blockOf, h1, he.bl _ _ h1]
  | arr sz ver rows wr =>
    rcases hk with ⟨h1, h2⟩ | ⟨r, cur, h1, _⟩
    · simp [blockOf, h1, he.ar _ _ _ h1]
    · simp [blockOf, h1, he.ar _ _ _ h1]
  | map es =>
    obtain ⟨b, ms, ck, h1, _⟩ := hk
    simp [blockOf, h1, he.bl _ _ h1]
  | iter s pos =>
    obtain ⟨b, h1, _⟩ := hk
    simp [blockOf, h1, he.bl _ _ h1]
  | dead => rfl

theorem blockOf_lt {l b : Nat} {blk : Blk} (hk : BlkOK B C w l blk) (hb : blockOf C l blk = some b) : b < w.heap.size := by
  cases blk with
  | cells vs =>
    obtain ⟨b', cur, e, h1, _, h3, _⟩ := hk
    simp only [blockOf, h1, Option.some.injEq] at hb; subst hb; exact heap_lt h3
  | arr sz ver rows wr =>
    rcases hk with ⟨h1, h2⟩ | ⟨r, cur, h1, _, _, _, _, h6, _⟩
    · simp [blockOf, h1] at hb
    · simp only [blockOf, h1, Option.some.injEq] at hb; subst hb; exact heap_lt h6
  | map es =>
    obtain ⟨b', ms, ck, h1, _, h3, _⟩ := hk
    simp only [blockOf, h1, Option.some.injEq] at hb; subst hb; exact heap_lt h3
  | iter s pos =>
    obtain ⟨b', h1, _, h3⟩ := hk
    simp only [blockOf, h1, Option.some.injEq] at hb; subst hb; exact heap_lt h3
  | dead => simp [blockOf] at hb

/-- The world has grown; what is said of it, too. -/
theorem Inv.extend (hi : Inv B C h w) (he : Ext w C D) (hb : Below w.heap.size w w') (him : ∀ b o u, D.im b o = some u → w'.cell? ⟨b, o, none⟩ = some u) (hone : ∀ b o u, D.im b o = some u → u.oneCell' = true)
    (hfr : ∀ l, h.length ≤ l → D.bl l = none ∧ ∀ v, D.ar l v = none) (hfv : ∀ (l : Nat) sz ver rows wr, h[l]? = some (.arr sz ver rows wr) → ∀ v, ver < v → D.ar l v = none) : Inv B D h w' := by
  refine ⟨him, hone, fun l blk hl => (hi.ok l blk hl).ext he hb, fun l l' blk blk' b h1 h2 h3 h4 => ?_, hfr, hfv, Nat.le_trans hi.hB hb.size, fun b o u hlt hu => hi.low b o u hlt (by rw [← he.im b o (Nat.lt_of_lt_of_le hlt hi.hB)]; exact hu), fun g r hg => (hi.gl g r hg).mono (pure_le he.le.im)⟩
  rw [blockOf_ext (hi.ok l blk h1) he.le] at h3
  rw [blockOf_ext (hi.ok l' blk' h2) he.le] at h4
  exact hi.inj l l' blk blk' b h1 h2 h3 h4

/-- A new place at the heap's end. -/
theorem Inv.add (hi : Inv B C h w) (he : Ext w C D) (hb : Below w.heap.size w w') (him : ∀ b o u, D.im b o = some u → w'.cell? ⟨b, o, none⟩ = some u) (hone : ∀ b o u, D.im b o = some u → u.oneCell' = true) {blk : Blk}
    (hok : BlkOK B D w' h.length blk) (hnew : ∀ b, blockOf D h.length blk = some b → w.heap.size ≤ b)
    (hbl : ∀ l, l ≠ h.length → D.bl l = C.bl l) (har : ∀ l v, l ≠ h.length → D.ar l v = C.ar l v)
    (hfv : ∀ sz ver rows wr, blk = .arr sz ver rows wr → ∀ v, ver < v → D.ar h.length v = none) : Inv B D (h ++ [blk]) w' := by
  have old : ∀ (l : Nat) k, (h ++ [blk])[l]? = some k → (l < h.length ∧ h[l]? = some k) ∨ (l = h.length ∧ k = blk) := by
    intro l k hk
    by_cases hl : l < h.length
    · rw [List.getElem?_append_left hl] at hk; exact .inl ⟨hl, hk⟩
    · rw [List.getElem?_append_right (by omega)] at hk
      have : l - h.length = 0 := by
        rcases Nat.eq_zero_or_pos (l - h.length) with e | e
        · exact e
        · rw [List.getElem?_eq_none (by simp; omega)] at hk; cases hk
      rw [this] at hk; simp at hk
      exact .inr ⟨by omega, hk.symm⟩
  refine ⟨him, hone, fun l k hk => ?_, fun l l' k k' b h1 h2 h3 h4 => ?_, fun l hl => ?_, fun l sz ver rows wr hk v hv => ?_, Nat.le_trans hi.hB hb.size, fun b o u hlt hu => hi.low b o u hlt (by rw [← he.im b o (Nat.lt_of_lt_of_le hlt hi.hB)]; exact hu), fun g r hg => (hi.gl g r hg).mono (pure_le he.le.im)⟩
  · rcases old l k hk with ⟨_, h1⟩ | ⟨rfl, rfl⟩
    · exact (hi.ok l k h1).ext he hb
    · exact hok
  · rcases old l k h1 with ⟨a1, a2⟩ | ⟨rfl, rfl⟩ <;> rcases old l' k' h2 with ⟨b1, b2⟩ | ⟨rfl, rfl⟩
    · rw [blockOf_ext (hi.ok l k a2) he.le] at h3
      rw [blockOf_ext (hi.ok l' k' b2) he.le] at h4
      exact hi.inj l l' k k' b a2 b2 h3 h4
    · rw [blockOf_ext (hi.ok l k a2) he.le] at h3
      have := blockOf_lt (hi.ok l k a2) h3
      have := hnew b h4
      omega
    · rw [blockOf_ext (hi.ok l' k' b2) he.le] at h4
      have := blockOf_lt (hi.ok l' k' b2) h4
      have := hnew b h3
      omega
    · rfl
  · simp at hl
    have := hi.fr l (by omega)
    exact ⟨by rw [hbl l (by omega)]; exact this.1, fun v => by rw [har l v (by omega)]; exact this.2 v⟩
  · rcases old l _ hk with ⟨a1, a2⟩ | ⟨rfl, e⟩
    · rw [har l v (by omega)]; exact hi.fv l sz ver rows wr a2 v hv
    · exact hfv sz ver rows wr e.symm v hv

def Cx.addBl (C : Cx) (l b : Nat) : Cx := { C with bl := fun k => if k = l then some b else C.bl k }
def Cx.addAr (C : Cx) (l ver : Nat) (r : Option RowAt) : Cx := { C with ar := fun k v => if k = l ∧ v = ver then some r else C.ar k v }

theorem ext_addBl {l : Nat} (b : Nat) (hn : C.bl l = none) : Ext w C (C.addBl l b) :=
  ⟨⟨fun _ _ _ x => x, fun k b' x => by
    simp only [Cx.addBl]; split
    · rename_i e; subst e; rw [hn] at x; cases x
    · exact x, fun _ _ _ x => x⟩, fun _ _ _ => rfl⟩
theorem ext_addAr {l ver : Nat} (r : Option RowAt) (hn : C.ar l ver = none) : Ext w C (C.addAr l ver r) :=
  ⟨⟨fun _ _ _ x => x, fun _ _ x => x, fun k v r' x => by
    simp only [Cx.addAr]; split
    · rename_i e; obtain ⟨rfl, rfl⟩ := e; rw [hn] at x; cases x
    · exact x⟩, fun _ _ _ => rfl⟩

theorem below_alloc (w : World) (o : Obj) : Below w.heap.size w (w.alloc o) := (Below.refl _ _).alloc (Nat.le_refl _) o
theorem below_drew (w : World) : Below w.heap.size w w.drew := (Below.refl _ _).drew

theorem im_grow (hi : Inv B C h w) (hb : Below w.heap.size w w') : ∀ b o u, C.im b o = some u → w'.cell? ⟨b, o, none⟩ = some u := (hi.grow hb).im

theorem heap_new (w : World) (o : Obj) : (w.alloc o).heap[w.heap.size]? = some o := heap_alloc_new w o

/-- A new variable. -/
theorem add_cells (hi : Inv B C h w) {vs : List AV} {us : Array Value} (hr : RelL C vs us.toList) (e : TypeId) :
    Inv B (C.addBl h.length w.heap.size) (h ++ [.cells vs]) (w.alloc (.cells us e)) ∧ Rel (C.addBl h.length w.heap.size) (.ptr h.length 0) (.pointer (some ⟨w.heap.size, 0, none⟩)) ∧ C.Le (C.addBl h.length w.heap.size) := by
  have hn := (hi.fr h.length (Nat.le_refl _)).1
  have he := ext_addBl (w := w) w.heap.size hn
  have hbl : (C.addBl h.length w.heap.size).bl h.length = some w.heap.size := by simp [Cx.addBl]
  refine ⟨hi.add he (below_alloc w _) (fun b o u x => im_grow hi (below_alloc w _) b o u x) (fun b o u x => hi.one b o u x) (blk := .cells vs) ⟨w.heap.size, us, e, hbl, hi.hB, heap_new w _, fun o => ?_, hr.mono he.le⟩ (fun b hb => ?_) (fun l hl => by simp [Cx.addBl, hl]) (fun l v hl => rfl) (fun sz ver rows wr e => by cases e), .ptr _ _ _ hbl, he.le⟩
  · cases hc : C.im w.heap.size o with
    | none => exact hc
    | some u => have := cell_lt (hi.im _ _ _ hc); omega
  · simp only [blockOf, hbl, Option.some.injEq] at hb; omega

/-- A new map, or a new iterator. -/
theorem add_map (hi : Inv B C h w) :
    Inv B (C.addBl h.length w.heap.size) (h ++ [.map []]) (w.alloc (.map #[] 0)) ∧ Rel (C.addBl h.length w.heap.size) (.map h.length) (.map (some w.heap.size)) ∧ C.Le (C.addBl h.length w.heap.size) := by
  have hn := (hi.fr h.length (Nat.le_refl _)).1
  have he := ext_addBl (w := w) w.heap.size hn
  have hbl : (C.addBl h.length w.heap.size).bl h.length = some w.heap.size := by simp [Cx.addBl]
  refine ⟨hi.add he (below_alloc w _) (fun b o u x => im_grow hi (below_alloc w _) b o u x) (fun b o u x => hi.one b o u x) (blk := .map []) ⟨w.heap.size, #[], 0, hbl, hi.hB, heap_new w _, rfl, fun i k v m x => by simp at x⟩ (fun b hb => ?_) (fun l hl => by simp [Cx.addBl, hl]) (fun l v hl => rfl) (fun sz ver rows wr e => by cases e), .map _ _ hbl, he.le⟩
  simp only [blockOf, hbl, Option.some.injEq] at hb; omega
theorem add_iter (hi : Inv B C h w) (s : List UInt8) :
    Inv B (C.addBl h.length w.heap.size) (h ++ [.iter s 0]) (w.alloc (.stringIter ⟨s.toArray⟩ 0)) ∧ Rel (C.addBl h.length w.heap.size) (.ptr h.length 0) (.pointer (some ⟨w.heap.size, 0, none⟩)) ∧ C.Le (C.addBl h.length w.heap.size) := by
  have hn := (hi.fr h.length (Nat.le_refl _)).1
  have he := ext_addBl (w := w) w.heap.size hn
  have hbl : (C.addBl h.length w.heap.size).bl h.length = some w.heap.size := by simp [Cx.addBl]
  refine ⟨hi.add he (below_alloc w _) (fun b o u x => im_grow hi (below_alloc w _) b o u x) (fun b o u x => hi.one b o u x) (blk := .iter s 0) ⟨w.heap.size, hbl, hi.hB, heap_new w _⟩ (fun b hb => ?_) (fun l hl => by simp [Cx.addBl, hl]) (fun l v hl => rfl) (fun sz ver rows wr e => by cases e), .ptr _ _ _ hbl, he.le⟩
  simp only [blockOf, hbl, Option.some.injEq] at hb; omega

/-- A nil slice that will be grown. -/
theorem add_nil (hi : Inv B C h w) (sz : Nat) : Inv B (C.addAr h.length 0 none) (h ++ [.arr sz 0 [] true]) w ∧ Rel (C.addAr h.length 0 none) (.own h.length 0 0) (.slice none 0 0) ∧ C.Le (C.addAr h.length 0 none) := by
  have hn := (hi.fr h.length (Nat.le_refl _)).2 0
  have he := ext_addAr (w := w) none hn
  have har : (C.addAr h.length 0 none).ar h.length 0 = some none := by simp [Cx.addAr]
  refine ⟨hi.add he (Below.refl _ _) hi.im (fun b o u x => hi.one b o u x) (blk := .arr sz 0 [] true) (.inl ⟨har, rfl⟩) (fun b hb => by simp [blockOf, har] at hb) (fun l hl => rfl) (fun l v hl => by simp [Cx.addAr, hl]) (fun sz' ver rows wr e v hv => ?_), .ownnil _ _ har, he.le⟩
  injection e with e0 e1; subst e1
  simp only [Cx.addAr, true_and]
  rw [if_neg (by omega)]
  exact (hi.fr h.length (Nat.le_refl _)).2 v

/-- A new array. -/
theorem add_arr (hi : Inv B C h w) {rows : List (List AV)} {cur : Array Value} {e : TypeId} {size cap : Nat} (hb : Below w.heap.size w w') (hn : w'.heap[w.heap.size]? = some (.cells cur e (0, 0))) (hcap : rows.length ≤ cap) (hmax : cap ≤ maxLen)
    (hsz : ∀ row ∈ rows, row.length = size) (hcur : cur.size = cap * size) (hr : RelL (Cx.pure C.im) rows.flatten (cur.toList.take (rows.length * size))) (h1 : ∀ u ∈ cur.toList.take (rows.length * size), u.oneCell' = true) :
    Inv B (C.addAr h.length 0 (some ⟨w.heap.size, cap, size, e⟩)) (h ++ [.arr size 0 rows true]) w' ∧ Rel (C.addAr h.length 0 (some ⟨w.heap.size, cap, size, e⟩)) (.own h.length 0 rows.length) (.slice (some ⟨w.heap.size, 0, none⟩) rows.length cap) ∧
      C.Le (C.addAr h.length 0 (some ⟨w.heap.size, cap, size, e⟩)) := by
  have hnn := (hi.fr h.length (Nat.le_refl _)).2 0
  have he := ext_addAr (w := w) (some ⟨w.heap.size, cap, size, e⟩) hnn
  have har : (C.addAr h.length 0 (some ⟨w.heap.size, cap, size, e⟩)).ar h.length 0 = some (some ⟨w.heap.size, cap, size, e⟩) := by simp [Cx.addAr]
  refine ⟨hi.add he hb (fun b o u x => im_grow hi hb b o u x) (fun b o u x => hi.one b o u x) (blk := .arr size 0 rows true) (.inr ⟨_, cur, har, hi.hB, hcap, hmax, hsz, hn, hcur, hr, h1, fun _ o => ?_, (fun e => by cases e), rfl⟩) (fun b hb => ?_) (fun l hl => rfl) (fun l v hl => by simp [Cx.addAr, hl]) (fun sz' ver rows wr e v hv => ?_), .own _ _ _ ⟨w.heap.size, cap, size, e⟩ har hcap, he.le⟩
  · show C.im w.heap.size o = none
    cases hc : C.im w.heap.size o with
    | none => rfl
    | some u => have := cell_lt (hi.im _ _ _ hc); omega
  · simp only [blockOf, har, Option.some.injEq] at hb; omega
  · injection e with e0 e1; subst e1
    simp only [Cx.addAr, true_and]
    rw [if_neg (by omega)]
    exact (hi.fr h.length (Nat.le_refl _)).2 v

end
end Go.Proofs.YtmjdgpiofhildaaDoor
