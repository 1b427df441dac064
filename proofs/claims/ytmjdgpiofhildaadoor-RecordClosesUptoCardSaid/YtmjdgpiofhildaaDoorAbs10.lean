/- Operations that make or turn something: how they are resolved, and that what the model does is what the small language says. -/
import Derived.Test.YtmjdgpiofhildaaDoorAbs9
namespace Go.Proofs.YtmjdgpiofhildaaDoor
open Go.RowKit

def keyKind (P : Program) (kt : TypeId) : Option EK := match P.underlying kt with
  | some .string => some .s
  | some (.int _) => some .i
  | some .bool => some .b
  | _ => none

def tbytes (P : Program) (t : TypeId) : Option Nat := (P.info? t).map (·.bytes)

def compEff (P : Program) (own : Bool) (ty : TypeId) : Op → Option (AO × List Operand)
  | .alloc e => match tzero P e with
    | some z => some (.alloc z, [])
    | none => none
  | .box _ x => some (.box, [x])
  | .store t a v => match tsize P t with
    | some n => some (.st n, [a, v])
    | none => none
  | .assign (.const (.slice none 0 0)) => match P.underlying ty with
    | some (.slice e) => (match tsize P e with
      | some n => some (.newnil n, [])
      | none => none)
    | _ => none
  | .makeMap _ none => some (.mkmap, [])
  | .mapUpdate t m k v => match P.underlying t with
    | some (.map kt _) => (match keyKind P kt with
      | some e => some (.mapup e, [m, k, v])
      | none => none)
    | _ => none
  | .makeSlice t l c => match P.underlying t with
    | some (.slice e) => (match tzero P e, tbytes P e, tsize P e with
      | some z, some b, some n => if z.length = n ∧ 0 < n then some (.mksl z b, [l, c]) else none
      | _, _, _ => none)
    | _ => none
  | .buildSlice t len parts => match P.underlying t with
    | some (.slice e) => (match tsize P e, tzero P e with
      | some n, some _ => if parts.toList.map (·.1) = List.range len then some (.bsl own n, parts.toList.map (·.2)) else none
      | _, _ => none)
    | _ => none
  | .call { callee := .builtin .append, args, argTypes } => match args.toList, argTypes.toList with
    | [s, x], [t, tx] => (match P.underlying t with
      | some (.slice e) => (match tsize P e, tbytes P e, tzero P e, P.underlying tx with
        | some n, some b, some z, some (.slice _) => if 0 < n ∧ z.length = n then some (.app false n b, [s, x]) else none
        | some n, some b, some z, some .string => if n = 1 ∧ z.length = n then some (.app true n b, [s, x]) else none
        | _, _, _, _ => none)
      | _ => none)
    | _, _ => none
  | .range t x => match P.underlying t with
    | some .string => some (.rng, [x])
    | _ => none
  | .next it true => some (.nxt, [it])
  | _ => none

section
variable {P : Program} {B : Base} {C D : Cx} {h : Heap} {w w' : World} {G : Gam}

theorem frz_sound (hi : Inv B C h w) {v u : AV} {x : Value} {h1 : Heap} (hf : frz h v = some (u, h1)) (hx : Rel C v x) : ∃ D, C.Le D ∧ Inv B D h1 w ∧ Rel (Cx.pure D.im) u x ∧ D.bl = C.bl ∧ D.ar = C.ar := by
  unfold frz at hf
  cases hv : view h v with
  | none => simp [hv] at hf
  | some v' =>
    simp only [hv, Option.map_some, Option.some.injEq, Prod.mk.injEq] at hf
    obtain ⟨rfl, rfl⟩ := hf
    obtain ⟨D, k1, k2, k3, k4, k5⟩ := freezeAll_inv (owns v) hi
    exact ⟨D, k1, k2, view_rel hi k1.im v v' x k5 hv hx, k3, k4⟩

theorem frzL_sound (hi : Inv B C h w) {vs us : List AV} {xs : List Value} {h1 : Heap} (hf : frzL h vs = some (us, h1)) (hx : RelL C vs xs) : ∃ D, C.Le D ∧ Inv B D h1 w ∧ RelL (Cx.pure D.im) us xs ∧ D.bl = C.bl ∧ D.ar = C.ar := by
  unfold frzL at hf
  cases hv : viewL h vs with
  | none => simp [hv] at hf
  | some v' =>
    simp only [hv, Option.map_some, Option.some.injEq, Prod.mk.injEq] at hf
    obtain ⟨rfl, rfl⟩ := hf
    obtain ⟨D, k1, k2, k3, k4, k5⟩ := freezeAll_inv (ownsL vs) hi
    exact ⟨D, k1, k2, viewL_rel hi k1.im vs v' xs k5 hv hx, k3, k4⟩

theorem oneC_rel {a : AV} {x : Value} (h : Rel C a x) (h1 : oneC a = true) : x.oneCell' = true := by
  cases h <;> first | rfl | (simp [oneC] at h1)

theorem onesC_rel {as : List AV} {xs : List Value} (h : RelL C as xs) (h1 : as.all oneC = true) : ∀ x ∈ xs, x.oneCell' = true := by
  intro x hx
  obtain ⟨i, hi⟩ := List.mem_iff_getElem?.1 hx
  have hlt : i < as.length := by rw [h.1]; exact (List.getElem?_eq_some_iff.1 hi).1
  have ha : as[i]? = some as[i] := by simp [hlt]
  exact oneC_rel (h.2 i _ x ha hi) (List.all_eq_true.1 h1 _ (List.getElem_mem hlt))

/-- A part of a row, put in: cell by cell, or in one piece. -/
theorem setAt_splice : ∀ (cs base : List AV) (off : Nat), off + cs.length ≤ base.length → setAt base off cs = base.take off ++ cs ++ base.drop (off + cs.length)
  | [], base, off, _ => by simp [setAt]
  | c :: cs, base, off, hl => by
    simp only [List.length_cons] at hl
    rw [setAt, setAt_splice cs (base.set off c) (off + 1) (by simp; omega)]
    have hlt : off < base.length := by omega
    rw [List.take_add_one, List.take_set_of_le (Nat.le_refl _), List.getElem?_set_self hlt]
    rw [show off + 1 + cs.length = off + (c :: cs).length by rw [List.length_cons]; omega]
    rw [List.drop_set_of_lt (by rw [List.length_cons]; omega)]
    simp

theorem relL_splice {as : List AV} {us : List Value} {cs : List AV} {vs : List Value} (h : RelL C as us) (k : RelL C cs vs) (off : Nat) :
    RelL C (as.take off ++ cs ++ as.drop (off + cs.length)) (us.take off ++ vs ++ us.drop (off + vs.length)) := by
  rw [← k.1]; exact ((h.take off).append k).append (h.drop _)

theorem heap_setRow {b : Nat} {old cs : Array Value} {e : TypeId} (hg : w.heap[b]? = some (.cells old e (0, 0))) : (w.setRow b cs).heap[b]? = some (.cells cs e (0, 0)) := setRow_heap w b old cs e (0, 0) hg

theorem below_setRow {b : Nat} (hb : B ≤ b) (cs : Array Value) : Below B w (w.setRow b cs) := ⟨rfl, rfl, rfl, by simp, fun k hk => setRow_other w b k cs (by omega)⟩

/-- What an operation that makes or turns something leaves. -/
def Left (P : Program) (B : Base) (C : Cx) (w : World) (r : Result Next) (v : AV) (h' : Heap) : Prop :=
  ∃ n u D w', r = .ok n w' ∧ (n = .value u ∨ (n = .skip ∧ u = undef)) ∧ C.Le D ∧ Inv B D h' w' ∧ Rel D v u ∧ Below B w w'

theorem below_of (hi : Inv B C h w) (hb : Below w.heap.size w w') : Below B w w' := hb.mono hi.hB

theorem store_ptr (hi : Inv B C h w) {t : TypeId} {size l off : Nat} (hs : tsize P t = some size) {v : AV} {x y : Value} (hx : Rel C (.ptr l off) x) (hy : Rel C v y) {vs : List AV} (hl : h[l]? = some (.cells vs))
    (hlen : v.cells.length = size) (h0 : 0 < size) (hone : v.cells.all oneC = true) (hroom : off + size ≤ vs.length) :
    ∃ w', (Instr.storeAt t x y).run P w = .ok () w' ∧ Inv B C (h.set l (.cells (setAt vs off v.cells))) w' ∧ Below B w w' := by
  have hcells := cells_rel hy (by intro e; rw [e] at hlen; simp at hlen; omega)
  cases hx with
  | ptr _ _ b hb =>
    obtain ⟨b', cur, e, h1, h2, h3, h4, h5⟩ := hi.ok l _ hl
    rw [hb] at h1; injection h1 with h1; subst h1
    have hl5 := h5.1
    simp at hl5
    have hvl := hcells.1
    simp at hvl
    have hst := run_storeCells_at P b off e y.cells.toList 0 cur w h3 (by simp; omega) (onesC_rel hcells hone)
    simp only [Nat.add_zero] at hst
    refine ⟨w.setRow b (cur.toList.take off ++ y.cells.toList ++ cur.toList.drop (off + y.cells.toList.length)).toArray, ?_, ?_, below_setRow h2 _⟩
    · simp only [Instr.storeAt, Instr.sureAddr, Sem.run_bind, Sem.run_pure, Result.andThen_ok, storeVar, run_sizeOf' hs]
      rw [if_neg (by simp; omega)]
      simpa using hst
    · refine hi.turn hl (.refl C) (by simp) (fun b' hb' _ => ⟨setRow_other w b b' _ (fun e => hb' (by simp [blockOf, hb, e])), fun _ => rfl⟩) (fun b' o u hu => ?_) hi.one ?_ (fun b' hb' => .inl hb') hi.fr (fun k sz ver rows wr hk v hv => ?_)
      · have hne : b' ≠ b := fun e => by subst e; rw [h4 o] at hu; cases hu
        rw [cell_setRow_other w b _ ⟨b', o, none⟩ hne]; exact hi.im _ _ _ hu
      · refine ⟨b, _, e, hb, h2, heap_setRow h3, h4, ?_⟩
        rw [setAt_splice _ _ _ (by omega)]
        simpa using relL_splice h5 hcells off
      · rw [List.getElem?_set] at hk
        split at hk
        · split at hk
          · cases hk
          · cases hk
        · exact hi.fv k sz ver rows wr hk v hv

theorem arr_fv (hi : Inv B C h w) {l sz sz2 ver : Nat} {rows rows' : List (List AV)} {wr wr' : Bool} (hl : h[l]? = some (.arr sz ver rows wr)) (k sz' ver' : Nat) (rows'' : List (List AV)) (wr'' : Bool) (hk : (h.set l (.arr sz2 ver rows' wr'))[k]? = some (.arr sz' ver' rows'' wr'')) (v : Nat) (hv : ver' < v) : C.ar k v = none := by
  rw [List.getElem?_set] at hk
  by_cases e : l = k
  · subst e
    rw [if_pos rfl, if_pos (List.getElem?_eq_some_iff.1 hl).1] at hk
    injection hk with hk; injection hk with hk0 hk; subst hk
    exact hi.fv l sz ver rows wr hl v hv
  · rw [if_neg e] at hk; exact hi.fv k sz' ver' rows'' wr'' hk v hv

theorem flatten_split (rows : List (List AV)) {i : Nat} {row : List AV} (h : rows[i]? = some row) : rows.flatten = (rows.take i).flatten ++ row ++ (rows.drop (i + 1)).flatten := by
  have hlt : i < rows.length := (List.getElem?_eq_some_iff.1 h).1
  have hrow : rows[i] = row := (List.getElem?_eq_some_iff.1 h).2
  conv => lhs; rw [← List.take_append_drop i rows, List.drop_eq_getElem_cons hlt]
  simp [hrow]

theorem flatten_set (rows : List (List AV)) {i : Nat} {row row' : List AV} (h : rows[i]? = some row) : (rows.set i row').flatten = (rows.take i).flatten ++ row' ++ (rows.drop (i + 1)).flatten := by
  have hlt : i < rows.length := (List.getElem?_eq_some_iff.1 h).1
  have h' : (rows.set i row')[i]? = some row' := by rw [List.getElem?_set_self hlt]
  rw [flatten_split _ h', List.take_set_of_le (Nat.le_refl _), List.drop_set_of_lt (by omega)]

theorem store_eptr (hi : Inv B C h w) {t : TypeId} {size l sz ver i off : Nat} (hs : tsize P t = some size) {u : AV} {x y : Value} (hx : Rel C (.eptr l ver i off) x) (hy : Rel (Cx.pure C.im) u y) {rows : List (List AV)} (hl : h[l]? = some (.arr sz ver rows true))
    {row : List AV} (hrow : rows[i]? = some row) (hlen : u.cells.length = size) (h0 : 0 < size) (hone : u.cells.all oneC = true) (hroom : off + size ≤ row.length) :
    ∃ w', (Instr.storeAt t x y).run P w = .ok () w' ∧ Inv B C (h.set l (.arr sz ver (rows.set i (setAt row off u.cells)) true)) w' ∧ Below B w w' := by
  have hcells := cells_rel hy (by intro e; rw [e] at hlen; simp at hlen; omega)
  cases hx with
  | eptr _ _ _ _ r hb =>
    rcases hi.ok l _ hl with ⟨k1, _⟩ | ⟨r', cur, k1, k2, k3, k4, k5, k6, k7, k8, k8', k9, k10, k11⟩
    · rw [hb] at k1; cases k1
    · rw [hb] at k1; injection k1 with k1; injection k1 with k1; subst k1
      have hi' : i < rows.length := (List.getElem?_eq_some_iff.1 hrow).1
      have hrl := k5 row (List.mem_of_getElem? hrow)
      have hm : (i + 1) * r.size ≤ rows.length * r.size := Nat.mul_le_mul_right _ hi'
      have hm2 : rows.length * r.size ≤ cur.size := by rw [k7]; exact Nat.mul_le_mul_right _ k3
      rw [Nat.add_mul] at hm
      have hvl := hcells.1
      simp at hvl
      have hst := run_storeCells_at P r.block (i * r.size + off) r.elem y.cells.toList 0 cur w k6 (by simp; omega) (onesC_rel hcells hone)
      simp only [Nat.add_zero] at hst
      have hpre : (rows.take i).flatten.length = i * r.size := by
        rw [flatten_len (n := r.size) _ (fun x hx => k5 x (List.mem_of_mem_take hx)), List.length_take, Nat.min_eq_left (by omega)]
      have hfl := flatten_len rows k5
      have hnew : (rows.set i (setAt row off u.cells)).flatten = setAt rows.flatten (i * r.size + off) u.cells := by
        have e1 : ((rows.take i).flatten ++ row ++ (rows.drop (i + 1)).flatten).take (i * r.size + off) = (rows.take i).flatten ++ row.take off := by
          rw [List.append_assoc, List.take_append, List.take_of_length_le (by omega), hpre, Nat.add_sub_cancel_left, List.take_append, show off - row.length = 0 by omega]
          simp
        have e2 : ((rows.take i).flatten ++ row ++ (rows.drop (i + 1)).flatten).drop (i * r.size + off + u.cells.length) = row.drop (off + u.cells.length) ++ (rows.drop (i + 1)).flatten := by
          rw [List.append_assoc, List.drop_append, List.drop_of_length_le (by omega), hpre, show i * r.size + off + u.cells.length - i * r.size = off + u.cells.length by omega, List.drop_append, show off + u.cells.length - row.length = 0 by omega]
          simp
        rw [flatten_set rows hrow, setAt_splice _ _ _ (by omega), setAt_splice _ _ _ (by rw [hfl]; omega), flatten_split rows hrow, e1, e2]
        simp only [List.append_assoc]
      refine ⟨w.setRow r.block (cur.toList.take (i * r.size + off) ++ y.cells.toList ++ cur.toList.drop (i * r.size + off + y.cells.toList.length)).toArray, ?_, ?_, below_setRow k2 _⟩
      · simp only [Instr.storeAt, Instr.sureAddr, Sem.run_bind, Sem.run_pure, Result.andThen_ok, storeVar, run_sizeOf' hs]
        rw [if_neg (by simp; omega)]
        simpa using hst
      · have hlens : (setAt row off u.cells).length = r.size := by rw [setAt_splice _ _ _ (by omega)]; simp; omega
        have htake : (cur.toList.take (i * r.size + off) ++ y.cells.toList ++ cur.toList.drop (i * r.size + off + y.cells.toList.length)).take (rows.length * r.size) =
            (cur.toList.take (rows.length * r.size)).take (i * r.size + off) ++ y.cells.toList ++ (cur.toList.take (rows.length * r.size)).drop (i * r.size + off + y.cells.toList.length) := by
          have hyl : y.cells.toList.length = size := by simp; omega
          rw [List.take_take, Nat.min_eq_left (by omega), List.take_append, List.take_of_length_le (by simp; omega)]
          congr 1
          rw [List.drop_take]
          congr 1
          simp; omega
        refine hi.turn hl (.refl C) (by simp) (fun b' hb' _ => ⟨setRow_other w r.block b' _ (fun e => hb' (by simp [blockOf, hb, e])), fun _ => rfl⟩) (fun b' o u' hu => ?_) hi.one ?_ (fun b' hb' => .inl hb') hi.fr (arr_fv hi hl)
        · have hne : b' ≠ r.block := fun e => by subst e; rw [k9 rfl o] at hu; cases hu
          rw [cell_setRow_other w r.block _ ⟨b', o, none⟩ hne]; exact hi.im _ _ _ hu
        · refine .inr ⟨r, _, hb, k2, by simpa using k3, k4, fun x hx => ?_, heap_setRow k6, ?_, ?_, fun x hx => ?_, k9, (fun e => by cases e), k11⟩
          · rcases List.mem_or_eq_of_mem_set hx with hx | rfl
            · exact k5 x hx
            · exact hlens
          · simp; omega
          · rw [hnew, setAt_splice _ _ _ (by rw [hfl]; omega), List.length_set]
            simp only [List.toList_toArray]
            rw [htake]
            exact relL_splice k8 hcells (i * r.size + off)
          · rw [List.length_set] at hx
            simp only [List.toList_toArray] at hx
            rw [htake] at hx
            simp only [List.mem_append] at hx
            rcases hx with (hx | hx) | hx
            · exact k8' x (List.mem_of_mem_take hx)
            · exact onesC_rel hcells hone x hx
            · exact k8' x (List.mem_of_mem_drop hx)

theorem keyKind_spec {kt : TypeId} {e : EK} (h : keyKind P kt = some e) : ∃ d, P.underlying kt = some d ∧ (match e with | .s => d = .string | .i => ∃ q, d = .int q | .b => d = .bool) := by
  unfold keyKind at h
  split at h <;> (first | cases h | skip)
  · rename_i hk; exact ⟨_, hk, rfl⟩
  · rename_i q hk; exact ⟨_, hk, q, rfl⟩
  · rename_i hk; exact ⟨_, hk, rfl⟩

theorem sameBits_key {e : EK} {k k' : AV} {x y : Value} {n : Nat} (hx : Rel C k x) (hy : Rel C k' y) (h : keyEq e k k' = some true) : Instr.sameBits n y x = true := by
  cases e <;> cases k <;> cases k' <;> simp only [keyEq] at h <;> (first | cases h | skip)
  · rw [bool_inv hx, bool_inv hy]; injection h with h; simp at h; subst h; simp [Instr.sameBits]
  · split at h
    · rename_i hk; injection h with h; simp at h; subst h hk
      rw [int_inv hx, int_inv hy]; simp [Instr.sameBits]
    · cases h
  · rw [str_inv hx, str_inv hy]; injection h with h; simp at h; subst h; simp only [Instr.sameBits]; rw [beq_toListBytes]; simp

/-- Where a key stands, and what putting it leaves. -/
theorem mput_now {e : EK} {d : TypeDesc} (hd : match e with | .s => d = .string | .i => ∃ q, d = .int q | .b => d = .bool) {k v : AV} {x y : Value} (hx : Rel C k x) (hy : Rel C v y) :
    ∀ (es : List (AV × AV)) (ms : List MapEntry) (n : Nat) (es' : List (AV × AV)), es.length = ms.length → (∀ (i : Nat) k v m, es[i]? = some (k, v) → ms[i]? = some m → Rel C k m.key ∧ Rel C v m.val) → mput e k v es = some es' →
      (∃ i u key, Instr.findNow d x ms n = some (some (n + i, u)) ∧ (ms[i]?).map (·.key) = some key ∧ (∀ n, Instr.sameBits n key x = true) ∧ i < ms.length ∧
        es'.length = ms.length ∧ (∀ (j : Nat) k v m, es'[j]? = some (k, v) → (ms.modify i fun m => { m with key := x, val := y })[j]? = some m → Rel C k m.key ∧ Rel C v m.val)) ∨
      (Instr.findNow d x ms n = some none ∧ es' = es ++ [(k, v)])
  | [], [], n, es', _, _, h => by simp [mput] at h; subst h; exact .inr ⟨rfl, rfl⟩
  | [], _ :: _, _, _, hl, _, _ => by simp at hl
  | _ :: _, [], _, _, hl, _, _ => by simp at hl
  | (k', v') :: es, m :: ms, n, es', hl, hr, h => by
    obtain ⟨r1, r2⟩ := hr 0 k' v' m rfl rfl
    have hrt : ∀ (i : Nat) k v m, es[i]? = some (k, v) → ms[i]? = some m → Rel C k m.key ∧ Rel C v m.val := fun i k v m h1 h2 => hr (i + 1) k v m (by simpa using h1) (by simpa using h2)
    simp only [mput] at h
    split at h
    · rename_i hk
      injection h with h; subst h
      have := keyEq_now hd hx r1 hk
      refine .inl ⟨0, m.val, m.key, by simp [Instr.findNow, this], rfl, fun n => sameBits_key hx r1 hk, by simp, by simpa using hl, fun j a b q h1 h2 => ?_⟩
      cases j with
      | zero =>
        simp at h1 h2
        obtain ⟨rfl, rfl⟩ := h1
        subst h2
        refine ⟨?_, hy⟩
        -- the key that stands is the key that is put
        have : x = m.key := by
          cases e <;> cases k <;> cases k' <;> simp only [keyEq] at hk <;> (first | cases hk | skip)
          · rw [bool_inv hx, bool_inv r1]; injection hk with hk; simp at hk; rw [hk]
          · split at hk
            · rename_i e1; injection hk with hk; simp at hk; rw [int_inv hx, int_inv r1, hk, e1]
            · cases hk
          · rw [str_inv hx, str_inv r1]; injection hk with hk; simp at hk; rw [hk]
        rw [this]; exact r1
      | succ j => simp at h1 h2; exact hrt j a b q h1 h2
    · rename_i hk
      have hnow := keyEq_now hd hx r1 hk
      cases hp : mput e k v es with
      | none => simp [hp] at h
      | some es2 =>
        simp only [hp, Option.map_some, Option.some.injEq] at h; subst h
        rcases mput_now hd hx hy es ms (n + 1) es2 (by simpa using hl) hrt hp with ⟨i, u, key, a1, a2, a3, a4, a5, a6⟩ | ⟨a1, a2⟩
        · refine .inl ⟨i + 1, u, key, ?_, by simpa using a2, a3, by simp; omega, by simp [a5], fun j a b q h1 h2 => ?_⟩
          · simp only [Instr.findNow, hnow]; rw [a1]; congr 3; omega
          · cases j with
            | zero => simp at h1 h2; obtain ⟨rfl, rfl⟩ := h1; subst h2; exact ⟨r1, r2⟩
            | succ j => simp at h1 h2; exact a6 j a b q h1 h2
        · exact .inr ⟨by simp only [Instr.findNow, hnow]; exact a1, by simp [a2]⟩
    · cases h

end
end Go.Proofs.YtmjdgpiofhildaaDoor
