/- The operations that make or turn something, in one statement. What a strings.Builder is made of: its variable, an append to its buffer, its bytes as a string. What is done to the abstract heap ahead of an operation leaves the world as it is. Calls, and one operation of a region. A region: how it is resolved, one operation in a frame, regions in the order of the text. -/
import Derived.Test.YtmjdgpiofhildaaGreatDoorAm4
import Derived.Laws.BytesString
import Derived.Lib.UnsafeStr
import Derived.RangeFuncSeq
import Derived.RangeFuncCalls
import Derived.OrdersIn
namespace Go.Proofs.YtmjdgpiofhildaaGreatDoor
open Go.RowKit
section
variable {P : Program} {B : Base} {C D : Cx} {h : Heap} {w w' : World} {G : Gam}

theorem left_val {s : Sem Value} {v : AV} {h' : Heap} (k : ∃ u D w', s.run P w = .ok u w' ∧ C.Le D ∧ Inv B D h' w' ∧ Rel D v u ∧ Keep B w w') :
    Left P B C w (Sem.run P (do pure (Next.value (← s))) w) v h' := by
  obtain ⟨u, D, w', k1, k2, k3, k4, k5⟩ := k
  exact ⟨.value u, u, D, w', by simp [k1], .inl rfl, k2, k3, k4, k5⟩
theorem left_unit {s : Sem Unit} {h' : Heap} (k : ∃ D w', s.run P w = .ok () w' ∧ C.Le D ∧ Inv B D h' w' ∧ Keep B w w') :
    Left P B C w (Sem.run P (do s; pure Next.skip) w) .junk h' := by
  obtain ⟨D, w', k1, k2, k3, k4⟩ := k
  exact ⟨.skip, undef, D, w', by simp [k1], .inr ⟨rfl, rfl⟩, k2, k3, .junk _, k4⟩

theorem one_val {vals : List AV} {x : Value} (h : RelL C vals [x]) : ∃ a, vals = [a] ∧ Rel C a x := by
  cases vals with
  | nil => simp [RelL] at h
  | cons a as =>
    obtain ⟨y, us, e, r1, r2⟩ := h.inv_cons
    injection e with e1 e2; subst e1 e2
    cases as with
    | nil => exact ⟨a, rfl, r1⟩
    | cons _ _ => simp [RelL] at r2
theorem two_vals {vals : List AV} {x y : Value} (h : RelL C vals [x, y]) : ∃ a b, vals = [a, b] ∧ Rel C a x ∧ Rel C b y := by
  cases vals with
  | nil => simp [RelL] at h
  | cons a as =>
    obtain ⟨z, us, e, r1, r2⟩ := h.inv_cons
    injection e with e1 e2; subst e1 e2
    obtain ⟨b, rfl, r3⟩ := one_val r2
    exact ⟨a, b, rfl, r1, r3⟩
theorem three_vals {vals : List AV} {x y z : Value} (h : RelL C vals [x, y, z]) : ∃ a b c, vals = [a, b, c] ∧ Rel C a x ∧ Rel C b y ∧ Rel C c z := by
  cases vals with
  | nil => simp [RelL] at h
  | cons a as =>
    obtain ⟨_, us, e, r1, r2⟩ := h.inv_cons
    injection e with e1 e2; subst e1 e2
    obtain ⟨b, c, rfl, r3, r4⟩ := two_vals r2
    exact ⟨a, b, c, rfl, r1, r3, r4⟩
theorem no_vals {vals : List AV} (h : RelL C vals []) : vals = [] := by
  cases vals with
  | nil => rfl
  | cons a as => simp [RelL] at h

theorem st_sound (hi : Inv B C h w) {t : TypeId} {n : Nat} (hn : tsize P t = some n) {a v : AV} {x y : Value} {h' : Heap} (hx : Rel C a x) (hy : Rel C v y) (he : stAV n h a v = some h') :
    ∃ D w', (Instr.storeAt t x y).run P w = .ok () w' ∧ C.Le D ∧ Inv B D h' w' ∧ Keep B w w' := by
  unfold stAV at he
  split at he
  · rename_i hc
    obtain ⟨c1, c2, c3⟩ := hc
    cases a with
    | ptr l off =>
      simp only at he
      split at he
      · rename_i vs hl
        split at he
        · rename_i hroom
          injection he with he; subst he
          obtain ⟨w', k1, k2, k3⟩ := store_ptr hi hn hx hy hl c1 c2 c3 hroom
          exact ⟨C, w', k1, .refl C, k2, k3⟩
        · cases he
      · cases he
    | eptr l ver i off =>
      simp only at he
      split at he
      · rename_i tg sz ver' rows hl
        split at he
        · rename_i hv; subst hv
          split at he
          · rename_i row hrow
            split at he
            · rename_i hroom
              injection he with he; subst he
              obtain ⟨w', k1, k2, k3⟩ := store_eptr (ne := true) hi hn hx hy hl hrow c1 c2 c3 hroom
              exact ⟨C, w', k1, .refl C, k2, k3⟩
            · cases he
          · cases he
        · cases he
      split at he
      · rename_i u h1 hf
        split at he
        · rename_i sz ver' rows hl
          split at he
          · rename_i hv; subst hv
            split at he
            · rename_i row hrow
              split at he
              · rename_i hc2
                obtain ⟨e1, e2, e3⟩ := hc2
                injection he with he; subst he
                obtain ⟨D, d1, d2, d3, d4, d5⟩ := frz_sound hi hf hy
                obtain ⟨w', k1, k2, k3⟩ := store_eptr (ne := false) d2 hn (hx.mono d1) d3 hl hrow e2 c2 e3 e1
                exact ⟨D, w', k1, d1, k2, k3⟩
              · cases he
            · cases he
          · cases he
        · cases he
      · cases he
    | _ => simp at he
  · cases he

theorem nxt_sound (hi : Inv B C h w) {l : Nat} {x : Value} {ty : TypeId} {v : AV} {h' : Heap} (hx : Rel C (.ptr l 0) x) (he : evalEff G h .nxt [.ptr l 0] = some (v, h')) :
    ∃ u D w', (Instr.next x true ty).run P w = .ok u w' ∧ C.Le D ∧ Inv B D h' w' ∧ Rel D v u ∧ Keep B w w' := by
  simp only [evalEff] at he
  split at he
  · rename_i s pos hl
    cases hx with
    | ptr _ _ b hb =>
      obtain ⟨b', h1, h2, h3⟩ := hi.ok l _ hl
      rw [hb] at h1; injection h1 with h1; subst h1
      split at he
      · rename_i hp
        simp only [Option.some.injEq, Prod.mk.injEq] at he
        obtain ⟨rfl, rfl⟩ := he
        have hrun : (Instr.next (.pointer (some ⟨b, 0, none⟩)) true ty).run P w = .ok (.tuple #[.bool true, .int .i64 pos, .int .i32 (Utf8.decode ⟨s.toArray⟩ pos).1]) (World.put w b (.stringIter ⟨s.toArray⟩ (pos + (Utf8.decode ⟨s.toArray⟩ pos).2))) := by
          simp only [Instr.next, Sem.run_bind, getObj, Sem.run, h3, Result.andThen_ok]
          rw [if_pos (by rw [size_ba]; exact hp)]
          simp [setObj, Sem.run, h3, World.put, goInt]
        refine ⟨_, C, _, hrun, .refl C, turn_obj hi hl hb (by simp [blockOf, hb]) h3 (fun c e f => by simp) h2 ⟨b, hb, h2, put_same h3⟩ (fun b' hb' => by simp [blockOf, hb] at hb'; exact hb'.symm) (fun _ _ _ _ => by simp), ?_, put_below h2 h3 (fun c => by simp)⟩
        exact .tup _ _ rfl (fun i c u hc hu => by
          match i with
          | 0 => simp at hc hu; subst hc hu; exact .bool _
          | 1 => simp at hc hu; subst hc hu; exact .int _ _
          | 2 => simp at hc hu; subst hc hu; exact .int _ _
          | _ + 3 => simp at hc)
      · rename_i hp
        simp only [Option.some.injEq, Prod.mk.injEq] at he
        obtain ⟨rfl, rfl⟩ := he
        have hrun : (Instr.next (.pointer (some ⟨b, 0, none⟩)) true ty).run P w = .ok (.tuple #[.bool false]) w := by
          simp only [Instr.next, Sem.run_bind, getObj, Sem.run, h3, Result.andThen_ok]
          rw [if_neg (by rw [size_ba]; exact hp)]
          simp
        refine ⟨_, C, _, hrun, .refl C, hi, ?_, Keep.refl _ _⟩
        exact .tup _ _ rfl (fun i c u hc hu => by
          match i with
          | 0 => simp at hc hu; subst hc hu; exact .bool _
          | _ + 1 => simp at hc)
  · cases he

theorem tzero_run {t : TypeId} {z : List AV} (hz : tzero P t = some z) (C : Cx) : ∃ zv, (∀ w, (zeroValue t).run P w = .ok zv w) ∧ RelL C z zv.cells.toList := by
  obtain ⟨i, zv, h1, h2, h3⟩ := tzero_rel (C := C) hz
  exact ⟨zv, fun w => by simp [zeroValue, typeInfo, h1, h2], h3⟩

/-- An operation that makes or turns something, as it is resolved. -/
def EffOK (P : Program) (B : Base) (C : Cx) (h : Heap) (w : World) (G : Gam) (ty : TypeId) (o : Op) (ao : AO) (xs : List Operand) : Prop :=
  ∀ (vals : List AV) (v : AV) (h' : Heap) (ρ : Operand → Value) (oper : Oper), (∀ u, ρ (.const u) = u) → oper.op = o → oper.type = ty → RelL C vals (xs.map ρ) → evalEff G h ao vals = some (v, h') → Left P B C w ((execOp ρ oper).run P w) v h'

theorem eff_sound (hi : Inv B C h w) {own : Bool} {ty : TypeId} {o : Op} {ao : AO} {xs : List Operand} (hc : compEff P own ty o = some (ao, xs)) : EffOK P B C h w G ty o ao xs := by
  intro vals v h' ρ oper hρ hop hty hrel hev
  have ex : execOp ρ oper = execOp ρ { oper with op := o } := by rw [← hop]
  rw [ex]
  clear ex hop
  unfold compEff at hc
  split at hc
  · -- alloc
    rename_i e
    split at hc
    · rename_i z hz
      simp only [Option.some.injEq, Prod.mk.injEq] at hc; obtain ⟨rfl, rfl⟩ := hc
      have := no_vals hrel; subst this
      simp only [evalEff, Option.some.injEq, Prod.mk.injEq] at hev; obtain ⟨rfl, rfl⟩ := hev
      obtain ⟨zv, z1, z2⟩ := tzero_run hz C
      obtain ⟨a1, a2, a3⟩ := add_cells hi z2 e
      exact left_val ⟨_, _, _, by simp [Instr.alloc, z1, newVar, newRow], a3, a1, a2, below_of hi (below_alloc w _)⟩
    · cases hc
  · -- box
    rename_i e x
    simp only [Option.some.injEq, Prod.mk.injEq] at hc; obtain ⟨rfl, rfl⟩ := hc
    obtain ⟨a, rfl, ha⟩ := one_val hrel
    simp only [evalEff] at hev
    split at hev
    · cases hev
    · rename_i c cs hcs
      simp only [Option.some.injEq, Prod.mk.injEq] at hev; obtain ⟨rfl, rfl⟩ := hev
      have hcells := cells_rel ha (by rw [hcs]; simp)
      obtain ⟨a1, a2, a3⟩ := add_cells hi hcells e
      rw [hcs] at a1
      exact left_val ⟨_, _, _, by simp [Instr.box, newVar, newRow], a3, a1, a2, below_of hi (below_alloc w _)⟩
  · -- store
    rename_i t a x
    split at hc
    · rename_i n hn
      simp only [Option.some.injEq, Prod.mk.injEq] at hc; obtain ⟨rfl, rfl⟩ := hc
      obtain ⟨va, vx, rfl, h1, h2⟩ := two_vals hrel
      simp only [evalEff, Option.map_eq_some_iff, Prod.mk.injEq] at hev
      obtain ⟨h1', he, rfl, rfl⟩ := hev
      exact left_unit (st_sound hi hn h1 h2 he)
    · cases hc
  · -- a nil slice
    split at hc
    · rename_i e he
      split at hc
      · rename_i n hn
        simp only [Option.some.injEq, Prod.mk.injEq] at hc; obtain ⟨rfl, rfl⟩ := hc
        have := no_vals hrel; subst this
        simp only [evalEff, Option.some.injEq, Prod.mk.injEq] at hev; obtain ⟨rfl, rfl⟩ := hev
        obtain ⟨a1, a2, a3⟩ := add_nil hi n
        refine ⟨_, _, _, w, rfl, .inl rfl, a3, a1, ?_, Keep.refl _ _⟩
        rw [hρ]; exact a2
      · cases hc
    · cases hc
  · -- a map
    simp only [Option.some.injEq, Prod.mk.injEq] at hc; obtain ⟨rfl, rfl⟩ := hc
    have := no_vals hrel; subst this
    simp only [evalEff, Option.some.injEq, Prod.mk.injEq] at hev; obtain ⟨rfl, rfl⟩ := hev
    obtain ⟨a1, a2, a3⟩ := add_map hi
    exact left_val ⟨_, _, _, by simp [Instr.makeMap], a3, a1, a2, below_of hi (below_alloc w _)⟩
  · -- an entry
    rename_i t m k x
    split at hc
    · rename_i kt et ht
      split at hc
      · rename_i e hk
        simp only [Option.some.injEq, Prod.mk.injEq] at hc; obtain ⟨rfl, rfl⟩ := hc
        obtain ⟨vm, vk, vx, rfl, h1, h2, h3⟩ := three_vals hrel
        cases vm with
        | map l =>
          simp only [evalEff] at hev
          split at hev
          · rename_i hkey
            split at hev
            · rename_i u h1' hf
              split at hev
              · rename_i es hl
                simp only [Option.map_eq_some_iff, Prod.mk.injEq] at hev
                obtain ⟨es', hp, rfl, rfl⟩ := hev
                exact left_unit (mapup_sound hi ht hk h1 h2 h3 hkey hf hl hp)
              · cases hev
            · cases hev
          · cases hev
        | _ => simp [evalEff] at hev
      · cases hc
    · cases hc
  · -- a made slice
    rename_i t l c
    split at hc
    · rename_i e ht
      split at hc
      · rename_i z b n hz hb hn
        split at hc
        · rename_i hcc
          simp only [Option.some.injEq, Prod.mk.injEq] at hc; obtain ⟨rfl, rfl⟩ := hc
          obtain ⟨vl, vc, rfl, h1, h2⟩ := two_vals hrel
          cases vl <;> first | (simp [evalEff] at hev; done) | skip
          cases vc <;> first | (simp [evalEff] at hev; done) | skip
          rename_i k1 l1 k2 c1
          simp only [evalEff] at hev
          split at hev
          · rename_i hcond
            simp only [Option.some.injEq, Prod.mk.injEq] at hev; obtain ⟨rfl, rfl⟩ := hev
            obtain ⟨q1, q2, q3, q4⟩ := hcond
            obtain ⟨D, m1, m2, m3, m4⟩ := mksl_sound hi (k1 := k1) (k2 := k2) ht hz hb hn hcc.1 hcc.2 q1 q2 q3 q4
            have e1 := int_inv h1
            have e2 := int_inv h2
            refine left_val ⟨_, D, _, ?_, m2, m3, m4, below_of hi (below_alloc w _)⟩
            rw [e1, e2]; exact m1
          · cases hev
        · cases hc
      · cases hc
    · cases hc
  · -- a slice written out
    rename_i t len parts
    split at hc
    · rename_i e ht
      split at hc
      · rename_i n z hn hz
        split at hc
        · rename_i hp
          simp only [Option.some.injEq, Prod.mk.injEq] at hc; obtain ⟨rfl, rfl⟩ := hc
          exact left_val (bsl_sound hi ht hn hz hp hrel hev)
        · cases hc
      · cases hc
    · cases hc
  · -- append
    rename_i args argTypes
    split at hc
    · rename_i s x t tx hargs htys
      have eargs : args = #[s, x] := by rw [← Array.toList_inj]; simpa using hargs
      have etys : argTypes = #[t, tx] := by rw [← Array.toList_inj]; simpa using htys
      subst eargs etys
      have app : ∀ {str : Bool} {n b : Nat} {e : TypeId} {z : List AV}, P.underlying t = some (.slice e) → tsize P e = some n → tbytes P e = some b → tzero P e = some z → z.length = n →
          (str = true → P.underlying tx = some .string ∧ n = 1) → (str = false → ∃ e, P.underlying tx = some (.slice e)) → RelL C vals ([s, x].map ρ) → evalEff G h (.app str n b) vals = some (v, h') →
          Left P B C w ((execOp ρ { oper with op := .call { callee := .builtin .append, args := #[s, x], argTypes := #[t, tx] } }).run P w) v h' := by
        intro str n b e z ht hn hb hz hzl k1 k2 hrel hev
        obtain ⟨vs, vx, rfl, h1, h2⟩ := two_vals hrel
        simp only [evalEff] at hev
        split at hev
        · rename_i new hnew
          split at hev
          · rename_i hsz
            have := app_sound (ty := oper.type) hi ht hn hb hz hzl h1 h2 hnew hsz k1 k2 (tagOK_none e) hev
            have em : #[s, x].map ρ = #[ρ s, ρ x] := by simp
            rw [← em] at this
            exact left_val this
          · cases hev
        · cases hev
      split at hc
      · rename_i e ht
        split at hc
        · rename_i n b z e2 hn hb hz htx
          split at hc
          · rename_i hcc
            simp only [Option.some.injEq, Prod.mk.injEq] at hc; obtain ⟨rfl, rfl⟩ := hc
            exact app ht hn hb hz hcc.2 (fun e => by cases e) (fun _ => ⟨e2, htx⟩) hrel hev
          · cases hc
        · rename_i n b z hn hb hz htx
          split at hc
          · rename_i hcc
            simp only [Option.some.injEq, Prod.mk.injEq] at hc; obtain ⟨rfl, rfl⟩ := hc
            exact app ht hn hb hz hcc.2 (fun _ => ⟨htx, hcc.1⟩) (fun e => by cases e) hrel hev
          · cases hc
        · cases hc
      · cases hc
    · cases hc
  · -- a range over a string
    rename_i t x
    split at hc
    · rename_i ht
      simp only [Option.some.injEq, Prod.mk.injEq] at hc; obtain ⟨rfl, rfl⟩ := hc
      obtain ⟨a, rfl, ha⟩ := one_val hrel
      cases a <;> first | (simp [evalEff] at hev; done) | skip
      rename_i s
      simp only [evalEff, Option.some.injEq, Prod.mk.injEq] at hev; obtain ⟨rfl, rfl⟩ := hev
      obtain ⟨a1, a2, a3⟩ := add_iter hi s
      have e1 := str_inv ha
      refine left_val ⟨_, _, _, ?_, a3, a1, a2, below_of hi (below_alloc w _)⟩
      rw [e1]; simp [Instr.range, run_underlying ht]
    · cases hc
  · -- next
    rename_i it
    simp only [Option.some.injEq, Prod.mk.injEq] at hc; obtain ⟨rfl, rfl⟩ := hc
    obtain ⟨a, rfl, ha⟩ := one_val hrel
    cases a with
    | ptr l off =>
      cases off with
      | zero => exact left_val (nxt_sound (G := G) hi ha hev)
      | succ _ => simp [evalEff] at hev
    | _ => simp [evalEff] at hev
  · cases hc

/-! ### Bytes as a string; copy -/
theorem bytes_flat : ∀ {rows : List (List AV)} {bs : List UInt8}, bytesOfRows rows = some bs → rows.flatten = bs.map (fun b => AV.int .u8 b.toNat) ∧ sizesOk 1 rows = true
  | [], bs, h => by simp only [bytesOfRows, Option.some.injEq] at h; subst h; exact ⟨rfl, rfl⟩
  | row :: r, bs, h => by
    unfold bytesOfRows at h
    split at h
    · rename_i h1; cases h1
    · rename_i n r' h1
      injection h1 with h1 h2; subst h1 h2
      split at h
      · rename_i hn
        simp only [Option.map_eq_some_iff] at h
        obtain ⟨bs', h3, rfl⟩ := h
        obtain ⟨h4, h5⟩ := bytes_flat h3
        have e : ((UInt8.ofNat n.toNat).toNat : Int) = n := by
          rw [UInt8.toNat_ofNat']
          have : n.toNat < 256 := by omega
          rw [show 2 ^ 8 = 256 from rfl, Nat.mod_eq_of_lt this]; omega
        refine ⟨by simp only [List.flatten_cons, h4, List.map_cons, List.cons_append, List.nil_append, e], by simp [sizesOk, h5]⟩
      · cases h
    · cases h
theorem bytes_news : ∀ {bs : List UInt8} {news : List Value}, RelL C (bs.map fun b => AV.int .u8 b.toNat) news → news = (bs.map fun b => (b.toNat : Int)).map (Value.int .u8)
  | [], news, h => by
    have := h.1
    cases news with
    | nil => rfl
    | cons _ _ => simp at this
  | b :: bs, news, h => by
    obtain ⟨y, us, rfl, r1, r2⟩ := h.inv_cons
    rw [int_inv r1, bytes_news r2]; rfl
theorem push_all : ∀ (bs : List UInt8) (s : ByteArray), (bs.map fun b => (b.toNat : Int)).foldl (fun r n => r.push (UInt8.ofNat n.toNat)) s = ⟨s.data ++ bs.toArray⟩
  | [], s => by simp
  | b :: bs, s => by
    simp only [List.map_cons, List.foldl_cons]
    rw [push_all bs]
    refine ByteArray.ext ?_
    simp [ByteArray.push]

theorem b2s_sound (hi : Inv B C h w) {src dst e : TypeId} (hs : P.underlying src = some (.slice e)) (he : P.underlying e = some (.int .u8)) (hd : P.underlying dst = some .string) {a : AV} {x : Value} {rows : List (List AV)} {bs : List UInt8}
    (hx : Rel C a x) (hr : rowsOf h a = some rows) (hb : bytesOfRows rows = some bs) : (convert src dst x).run P w = .ok (.string ⟨bs.toArray⟩) w := by
  obtain ⟨hf, hz⟩ := bytes_flat hb
  obtain ⟨news, h1, h2⟩ := src_of (tx := src) (str := false) hi hx (by simpa [appRows] using hr) hz (fun e => by cases e) (fun _ => ⟨e, hs⟩)
  rw [hf] at h2
  have hn := bytes_news h2
  have hsl : ∃ p l c, x = .slice p l c := by
    cases a <;> first | (simp [rowsOf] at hr; done) | skip
    all_goals cases hx <;> exact ⟨_, _, _, rfl⟩
  obtain ⟨p, l, c, rfl⟩ := hsl
  rw [run_convert_bytes_string w src dst e p l c hs he hd]
  have hl : l = rows.length := by
    have := h1.len w
    simp [Builtin.lenOf] at this
    exact this
  cases p with
  | none =>
    have h3 := h1.cells
    have h4 := h1.newsLen
    rw [run_firstCells_none] at h3
    simp only [Result.ok.injEq, and_true] at h3
    have h5 : news = [] := by
      have := congrArg Array.toList h3
      simpa using this.symm
    rw [h5] at hn
    have hbs : bs = [] := by
      cases bs with
      | nil => rfl
      | cons _ _ => simp at hn
    subst hbs
    simp [Conv.bytesToString]
    rfl
  | some ad =>
    have h3 := h1.cells
    simp only [Builtin.firstCells, Nat.mul_one] at h3
    rw [← hl, hn] at h3
    rw [run_bytesToString w ad l c _ h3, push_all]
    simp [ByteArray.empty, ByteArray.emptyWithCapacity]
    rfl

/-- Writing over the first rows of an array of one's own. -/
theorem cpy_sound (hi : Inv B C h w) {t tx ty e : TypeId} {n : Nat} {str : Bool} (ht : P.underlying t = some (.slice e)) (hn : tsize P e = some n) {l ver m : Nat} {a : AV} {x y : Value} {v : AV} {h' : Heap}
    (hx : Rel C (.own l ver m) x) (hy : Rel C a y) (hk : str = true → P.underlying tx = some .string ∧ n = 1) (hk' : str = false → ∃ e, P.underlying tx = some (.slice e))
    (he : evalEff G h (.cpy str n) [.own l ver m, a] = some (v, h')) :
    ∃ u D w', (Builtin.copy_ #[t, tx] ty #[x, y]).run P w = .ok u w' ∧ C.Le D ∧ Inv B D h' w' ∧ Rel D v u ∧ Keep B w w' := by
  simp only [evalEff] at he
  split at he
  · rename_i sr hsr
    split at he
    · rename_i hs
      obtain ⟨news, s1, s2⟩ := src_of (tx := tx) hi hy hsr hs hk hk'
      have hall := sizesOk_all hs
      have hsf := flatten_len sr hall
      split at he
      · rename_i hnil
        subst hnil
        simp only [Option.some.injEq, Prod.mk.injEq] at he; obtain ⟨rfl, rfl⟩ := he
        have hnews : news = [] := List.eq_nil_of_length_eq_zero (by rw [s1.newsLen]; simp)
        subst hnews
        have hl0 := s1.len w
        have hc0 := s1.cells
        simp only [List.length_nil] at hl0 hc0
        refine ⟨.int .i64 0, C, w, ?_, .refl C, hi, .int _ _, .refl _ _⟩
        cases hx <;> simp [Builtin.copy_, run_underlying ht, run_sizeOf' hn, hl0, hc0, storeCells, goInt]
      · rename_i hne
        split at he
        · rename_i sz ver' rows hl
          split at he
          · rename_i hc
            obtain ⟨rfl, c1, c2, rfl⟩ := hc
            simp only [Option.some.injEq, Prod.mk.injEq] at he; obtain ⟨rfl, rfl⟩ := he
            have hpos : 0 < sr.length := List.length_pos_iff.2 hne
            cases hx with
            | ownnil _ _ h1 => omega
            | own _ _ _ r h1 hcap =>
              rcases hi.ok l _ hl with ⟨k1, _⟩ | ⟨r', cur, k1, k2, k3, k4, k5, k6, k7, k8, k8', k9, k10, k11⟩
              · rw [h1] at k1; cases k1
              · rw [h1] at k1; injection k1 with k1; injection k1 with k1; subst k1
                obtain ⟨k11, k12⟩ := k11
                subst k11
                have hm : sr.length * r.size ≤ rows.length * r.size := Nat.mul_le_mul_right _ (by omega)
                have hm2 : rows.length * r.size ≤ cur.size := by rw [k7]; exact Nat.mul_le_mul_right _ k3
                have hnl := s1.newsLen
                have hst := run_storeCells_at P r.block 0 r.elem news 0 cur w k6 (by simp; omega) s1.one
                simp only [Nat.add_zero] at hst
                have hfl := flatten_len rows k5
                have hdrop : (rows.drop sr.length).flatten = rows.flatten.drop (sr.length * r.size) := by
                  have e1 : rows.flatten = (rows.take sr.length).flatten ++ (rows.drop sr.length).flatten := by rw [← List.flatten_append, List.take_append_drop]
                  have e2 : (rows.take sr.length).flatten.length = sr.length * r.size := by rw [flatten_len (n := r.size) _ (fun x hx => k5 x (List.mem_of_mem_take hx)), List.length_take, Nat.min_eq_left (by omega)]
                  conv => rhs; rw [e1, List.drop_append, List.drop_of_length_le (by omega), e2, Nat.sub_self]
                  simp
                have hnew : (sr ++ rows.drop sr.length).flatten = rows.flatten.take 0 ++ sr.flatten ++ rows.flatten.drop (0 + sr.flatten.length) := by
                  rw [List.flatten_append, hdrop, hsf]; simp
                have hlen : (sr ++ rows.drop sr.length).length = rows.length := by simp; omega
                have hmin : Nat.min sr.length m = sr.length := Nat.min_eq_left c2
                refine ⟨.int .i64 sr.length, C, w.setRow r.block (cur.toList.take 0 ++ news ++ cur.toList.drop (0 + news.length)).toArray, ?_, .refl C, ?_, .int _ _, below_setRow k2 _⟩
                · have hsz : (sizeOf e : Sem Nat).run P w = .ok r.size w := run_sizeOf' hn w
                  simp at hst
                  simp [Builtin.copy_, run_underlying ht, hsz, s1.len w, hmin, s1.cells, goInt, hst]
                · have htake : (cur.toList.take 0 ++ news ++ cur.toList.drop (0 + news.length)).take (rows.length * r.size) =
                      (cur.toList.take (rows.length * r.size)).take 0 ++ news ++ (cur.toList.take (rows.length * r.size)).drop (0 + news.length) := by
                    simp only [List.take_zero, List.nil_append, Nat.zero_add]
                    rw [List.take_append, List.take_of_length_le (by omega), List.drop_take]
                  refine hi.turn hl (.refl C) (by simp) (fun b' hb' _ => ⟨setRow_other w r.block b' _ (fun e => hb' (by simp [blockOf, h1, e])), fun _ => rfl⟩) (fun b' o u' hu => ?_) hi.one ?_ (fun b' hb' => .inl hb') hi.fr (arr_fv hi hl)
                  · have hne : b' ≠ r.block := fun e => by subst e; rw [k9 rfl o] at hu; cases hu
                    rw [cell_setRow_other w r.block _ ⟨b', o, none⟩ hne]; exact hi.im _ _ _ hu
                  · refine .inr ⟨r, _, h1, k2, by rw [hlen]; exact k3, k4, fun x hx => ?_, heap_setRow k6, ?_, ?_, fun x hx => ?_, k9, (fun e => by cases e), rfl, k12.len (by rw [hlen]; exact Nat.le_refl _)⟩
                    · rcases List.mem_append.1 hx with hx | hx
                      · exact hall x hx
                      · exact k5 x (List.mem_of_mem_drop hx)
                    · simp; omega
                    · rw [hnew, hlen]
                      simp only [List.toList_toArray]
                      rw [htake]
                      exact relL_splice k8 s2 0
                    · rw [hlen] at hx
                      simp only [List.toList_toArray] at hx
                      rw [htake] at hx
                      simp only [List.mem_append] at hx
                      rcases hx with (hx | hx) | hx
                      · exact k8' x (List.mem_of_mem_take hx)
                      · exact s1.one x hx
                      · exact k8' x (List.mem_of_mem_drop hx)
          · cases he
        · cases he
    · cases he
  · cases he

/-! ### A slice of an array of one's own -/
theorem slcPre_sound {t e : TypeId} {n : Nat} (ht : P.underlying t = some (.slice e)) (hs : tsize P e = some n) {a v : AV} {x : Value} (hx : Rel C a x) (lo hi' mx : Option (IntKind × Int))
    (hev : slcPre n a (bndI lo) (bndI hi') (bndI mx) = some v) : ∃ u, Rel C v u ∧ ∀ w, (Instr.sliceAt t x (bnd lo) (bnd hi') (bnd mx)).run P w = .ok u w := by
  cases a <;> first | exact slice_sound (size := some n) ⟨e, ht, hs⟩ hx lo hi' mx hev | skip
  rename_i l ver m
  simp only [slcPre] at hev
  split at hev
  · rename_i hc
    obtain ⟨c0, c1, c2, c3⟩ := hc
    injection hev with hev; subst hev
    cases mx with
    | some q => simp [bndI] at c0
    | none =>
      have hshape : ∃ p cap, x = .slice p m cap ∧ m ≤ cap ∧ (p = none ∨ ∃ b, p = some ⟨b, 0, none⟩) ∧ Rel C (.own l ver ((bndI hi').getD m).toNat) (.slice p ((bndI hi').getD m).toNat cap) := by
        cases hx with
        | ownnil _ _ h1 =>
          refine ⟨none, 0, rfl, Nat.le_refl _, .inl rfl, ?_⟩
          have e0 : ((bndI hi').getD (↑(0 : Nat))).toNat = 0 := by omega
          rw [e0]; exact .ownnil _ _ h1
        | own _ _ _ r h1 hcap => exact ⟨_, r.cap, rfl, hcap, .inr ⟨_, rfl⟩, .own _ _ _ r h1 (by omega)⟩
      obtain ⟨p, cap, rfl, hcap, hp, hrel⟩ := hshape
      have hb := run_bounds (P := P) true m cap lo hi' hcap (by omega) (by rw [c1]; exact c2) c3
      refine ⟨_, hrel, fun w => ?_⟩
      have hb' := hb w
      simp only [Instr.sliceAt, Sem.run_bind, run_underlying ht, Result.andThen_ok, Instr.slice]
      rw [show bnd (none : Option (IntKind × Int)) = none from rfl, hb']
      simp only [Result.andThen_ok, run_sizeOf' hs, Sem.run_pure, c1]
      have hm : p.map (fun q => q.add (0 * n)) = p := by
        rcases hp with rfl | ⟨b, rfl⟩
        · rfl
        · simp [Addr.add_lit]
      simp only [Int.toNat_zero, hm, ite_self, Nat.sub_zero]
  · cases hev

theorem slcf_sound (hi : Inv B C h w) {t e : TypeId} {n : Nat} (ht : P.underlying t = some (.slice e)) (hs : tsize P e = some n) {a v : AV} {x : Value} {h' : Heap} (hx : Rel C a x) (lo hi' mx : Option (IntKind × Int))
    (hev : slcOwn n h a (bndI lo) (bndI hi') (bndI mx) = some (v, h')) : ∃ u D, (Instr.sliceAt t x (bnd lo) (bnd hi') (bnd mx)).run P w = .ok u w ∧ C.Le D ∧ Inv B D h' w ∧ Rel D v u := by
  unfold slcOwn at hev
  split at hev
  · rename_i v' hv'
    simp only [Option.some.injEq, Prod.mk.injEq] at hev; obtain ⟨rfl, rfl⟩ := hev
    obtain ⟨u, h1, h2⟩ := slcPre_sound ht hs hx lo hi' mx hv'
    exact ⟨u, C, h2 w, .refl C, hi, h1⟩
  · cases a <;> first | (cases hev; done) | skip
    rename_i l ver m
    simp only at hev
    split at hev
    · rename_i rows h1 hf
      simp only [Option.map_eq_some_iff, Prod.mk.injEq] at hev
      obtain ⟨v', hv', rfl, rfl⟩ := hev
      obtain ⟨D, d1, d2, d3, d4, d5⟩ := frz_sound hi hf hx
      obtain ⟨u, k1, k2⟩ := rows_sound ht hs d3 lo hi' mx hv'
      exact ⟨u, D, k2 w, d1, d2, k1.mono D.frozen_le⟩
    · cases hev

end
end Go.Proofs.YtmjdgpiofhildaaGreatDoor

namespace Go.Proofs.YtmjdgpiofhildaaGreatDoor
open Go.RowKit
section
variable {P : Program} {B : Base} {C D : Cx} {h : Heap} {w w' : World} {G : Gam}

/-- A struct of a pointer to its like and a slice: its variable is made with an array of its own; an append that keeps what is known of the array's type; the bytes of an array as a string. -/
def compB (P : Program) (own : Bool) : Op → Option (AO × List Operand)
  | .alloc e => match P.underlying e with
    | some (.struct fs) => match fs.toList, tzero P e with
      | [f0, f1], some [.nilp, .nils] => match P.underlying f0.type, P.underlying f1.type with
        | some (.pointer e'), some (.slice eb) => if e' = e ∧ tsize P eb = some 1 then some (.allocB e eb, []) else none
        | _, _ => none
      | _, _ => none
    | _ => none
  | .call { callee := .builtin .append, args, argTypes } => if own then (match args.toList, argTypes.toList with
    | [s, x], [t, tx] => match P.underlying t with
      | some (.slice e) => match tsize P e, tbytes P e, tzero P e, P.underlying tx with
        | some n, some b, some z, some (.slice _) => if z.length = n then some (.appT false n b e, [s, x]) else none
        | some n, some b, some z, some .string => if n = 1 ∧ z.length = n then some (.appT true n b e, [s, x]) else none
        | _, _, _, _ => none
      | _ => none
    | _, _ => none) else none
  | .call { callee := .builtin .unsafeSliceData, args, .. } => match args.toList with
    | [x] => some (.usd, [x])
    | _ => none
  | .call { callee := .builtin .unsafeString, args, argTypes } => match args.toList, argTypes.toList with
    | [p, n], [pt, _] => match P.underlying pt with
      | some (.pointer e) => if P.cellsOf e = 1 then some (.ustr e, [p, n]) else none
      | _ => none
    | _, _ => none
  | _ => none

theorem cell_freeze (w : World) (p : Addr) (n : Nat) (a : Addr) : (w.freeze p n).cell? a = w.cell? a := by
  unfold World.freeze
  split
  · rfl
  · simp only [World.cell?, Array.getElem?_modify]
    by_cases e : p.block = a.block
    · rw [if_pos e]
      cases hb : w.heap[a.block]? with
      | none => rfl
      | some o => cases o <;> rfl
    · rw [if_neg e]

theorem freeze_other (w : World) (p : Addr) (n k : Nat) (hk : k ≠ p.block) : (w.freeze p n).heap[k]? = w.heap[k]? := by
  unfold World.freeze
  split
  · rfl
  · simp only [Array.getElem?_modify]
    rw [if_neg (fun e => hk e.symm)]

theorem freeze_keep {n : Nat} (w : World) {p : Addr} (hp : n ≤ p.block) (k : Nat) : Keep n w (w.freeze p k) :=
  ⟨Lib.below_freeze (Below.refl n w) hp k, fun i c x => by
    by_cases e : i = p.block
    · subst e
      unfold World.freeze
      split
      · exact x
      · simp only [Array.getElem?_modify, if_true, x]; rfl
    · rw [freeze_other w p k i e]; exact x⟩

/-- The bytes of an array, handed over as a string. -/
theorem ustr_sound (hi : Inv B C h w) {pt it ty e : TypeId} (hp : P.underlying pt = some (.pointer e)) (hc : P.cellsOf e = 1) {l ver : Nat} {rows : List (List AV)} {bs : List UInt8} {x : Value}
    (hl : h[l]? = some (.arrT (some e) 1 ver rows true)) (hx : Rel C (.eptr l ver 0 0) x) (h0 : 0 < rows.length) (hmx : rows.length ≤ byteMax) (hb : bytesOfRows rows = some bs) :
    ∃ u D w', (Builtin.unsafeString_ #[pt, it] ty #[x, .int .i64 rows.length]).run P w = .ok u w' ∧ C.Le D ∧ Inv B D (h.set l .dead) w' ∧ Rel D (.str bs) u ∧ Keep B w w' := by
  cases hx with
  | eptr _ _ _ _ r hr =>
    rcases hi.ok l _ hl with ⟨k1, k2⟩ | ⟨r', cur, k1, k2, k3, k4, k5, k6, k7, k8, k8', k9, k10, k11, k12⟩
    · rw [hr] at k1; cases k1
    · rw [hr] at k1; injection k1 with k1; injection k1 with k1; subst k1
      have hel := k12.1 e rfl
      obtain ⟨hf, hz⟩ := bytes_flat hb
      have hfl := flatten_len rows k5
      rw [k11, Nat.mul_one] at hfl k8 k7
      have hbl : bs.length = rows.length := by
        have := congrArg List.length hf
        simp only [List.length_map] at this; omega
      rw [hf] at k8
      have hn := bytes_news k8
      have hrun := Lib.run_unsafeString_row (P := P) w pt it ty e hp hc r.block cur.size (by simp [World.shape?, k6, hel]) bs (by intro e; subst e; simp at hbl; omega) (by omega) (by unfold byteMax at hmx; omega) (fun j x hj => by
        have hj' : j < bs.length := (List.getElem?_eq_some_iff.1 hj).1
        have h1 : (cur.toList.take rows.length)[j]? = some (.int .u8 x.toNat) := by rw [hn]; simp [hj]
        rw [List.getElem?_take, if_pos (by omega)] at h1
        rw [Addr.add_lit, Nat.zero_add]
        have := cell_of_heap k6 j
        simp only [Array.getElem?_toList] at h1
        exact this.trans h1)
      refine ⟨.string ⟨bs.toArray⟩, C, w.freeze ⟨r.block, 0, none⟩ bs.length, ?_, .refl C, ?_, .str _, freeze_keep w k2 _⟩
      · rw [hbl] at hrun
        simpa [hbl] using hrun
      · refine hi.turn hl (.refl C) ?_ (fun b hb2 _ => ⟨freeze_other w _ _ b (fun e => hb2 (by simp [blockOf, hr, e])), fun _ => rfl⟩) (fun b o u hu => by rw [cell_freeze]; exact hi.im _ _ _ hu) hi.one trivial (fun b hb2 => by cases hb2) hi.fr (fun k ne tg sz ver2 rows2 wr2 hk v hv => ?_)
        · exact (freeze_keep (n := B) w (p := ⟨r.block, 0, none⟩) k2 bs.length).below.size
        · rw [List.getElem?_set] at hk
          split at hk
          · split at hk
            · cases hk
            · cases hk
          · exact hi.fv k ne tg sz ver2 rows2 wr2 hk v hv

theorem B_sound (hi : Inv B C h w) {own : Bool} {o : Op} {ao : AO} {xs : List Operand} (hc : compB P own o = some (ao, xs)) {vals : List AV} {v : AV} {h' : Heap} {ρ : Operand → Value} {oper : Oper}
    (hop : oper.op = o) (hrel : RelL C vals (xs.map ρ)) (hev : evalAO G h ao vals = some (v, h')) : Left P B C w ((execOp ρ oper).run P w) v h' := by
  have ex : execOp ρ oper = execOp ρ { oper with op := o } := by rw [← hop]
  rw [ex]
  clear ex hop
  unfold compB at hc
  split at hc
  · -- the variable
    rename_i e
    split at hc
    · rename_i fs hu
      split at hc
      · rename_i f0 f1 hfs hz
        split at hc
        · rename_i e' eb h0 h1
          split at hc
          · simp only [Option.some.injEq, Prod.mk.injEq] at hc; obtain ⟨rfl, rfl⟩ := hc
            have := no_vals hrel; subst this
            simp only [evalAO, AO.quiet, Bool.false_eq_true, if_false, evalEff, Option.some.injEq, Prod.mk.injEq] at hev; obtain ⟨rfl, rfl⟩ := hev
            obtain ⟨zv, z1, z2⟩ := tzero_run hz C
            obtain ⟨a1, a2, a3⟩ := add_nilT hi (some eb) 1
            have z3 : RelL (C.addAr h.length 0 none) [.nilp, .own h.length 0 0] zv.cells.toList := by
              obtain ⟨v1, us1, e1, r1, r2⟩ := z2.inv_cons
              obtain ⟨v2, us2, rfl, r3, r4⟩ := r2.inv_cons
              have := r4.inv_nil; subst this
              rw [e1]
              cases r3
              exact .cons (r1.mono a3) (.cons a2 .nil)
            obtain ⟨b1, b2, b3⟩ := add_cellsT a1 z3 e (tg := some e) (fun t ht => by injection ht)
            rw [List.length_append, List.length_singleton] at b2
            rw [List.length_append, List.length_singleton] at b1 b3
            exact left_val ⟨_, _, _, by simp [Instr.alloc, z1, newVar, newRow], a3.trans b3, b1, b2, below_of hi (below_alloc w _)⟩
          · cases hc
        · cases hc
      · cases hc
    · cases hc
  · -- append
    rename_i args argTypes
    split at hc
    · split at hc
      · rename_i s x t tx hargs htys
        have eargs : args = #[s, x] := by rw [← Array.toList_inj]; simpa using hargs
        have etys : argTypes = #[t, tx] := by rw [← Array.toList_inj]; simpa using htys
        subst eargs etys
        have app : ∀ {str : Bool} {n b : Nat} {e : TypeId} {z : List AV}, P.underlying t = some (.slice e) → tsize P e = some n → tbytes P e = some b → tzero P e = some z → z.length = n →
            (str = true → P.underlying tx = some .string ∧ n = 1) → (str = false → ∃ e, P.underlying tx = some (.slice e)) → RelL C vals ([s, x].map ρ) → evalAO G h (.appT str n b e) vals = some (v, h') →
            Left P B C w ((execOp ρ { oper with op := .call { callee := .builtin .append, args := #[s, x], argTypes := #[t, tx] } }).run P w) v h' := by
          intro str n b e z ht hn hb hz hzl k1 k2 hrel hev
          obtain ⟨vs, vx, rfl, h1, h2⟩ := two_vals hrel
          simp only [evalAO, AO.quiet, Bool.false_eq_true, if_false, evalEff] at hev
          split at hev
          · rename_i new hnew
            split at hev
            · rename_i hsz
              have := app_sound (ty := oper.type) hi ht hn hb hz hzl h1 h2 hnew hsz k1 k2 (te := some e) (fun t ht => by injection ht) hev
              have em : #[s, x].map ρ = #[ρ s, ρ x] := by simp
              rw [← em] at this
              exact left_val this
            · cases hev
          · cases hev
        split at hc
        · rename_i e ht
          split at hc
          · rename_i n b z e2 hn hb hz htx
            split at hc
            · rename_i hcc
              simp only [Option.some.injEq, Prod.mk.injEq] at hc; obtain ⟨rfl, rfl⟩ := hc
              exact app ht hn hb hz hcc (fun e => by cases e) (fun _ => ⟨e2, htx⟩) hrel hev
            · cases hc
          · rename_i n b z hn hb hz htx
            split at hc
            · rename_i hcc
              simp only [Option.some.injEq, Prod.mk.injEq] at hc; obtain ⟨rfl, rfl⟩ := hc
              exact app ht hn hb hz hcc.2 (fun _ => ⟨htx, hcc.1⟩) (fun e => by cases e) hrel hev
            · cases hc
          · cases hc
        · cases hc
      · cases hc
    · cases hc
  · -- the data of a slice
    rename_i args argTypes
    split at hc
    · rename_i x hargs
      have eargs : args = #[x] := by rw [← Array.toList_inj]; simpa using hargs
      subst eargs
      simp only [Option.some.injEq, Prod.mk.injEq] at hc; obtain ⟨rfl, rfl⟩ := hc
      obtain ⟨a, rfl, ha⟩ := one_val hrel
      simp only [evalAO, AO.quiet, if_true] at hev
      have em : #[x].map ρ = #[ρ x] := by simp
      cases a <;> first | (simp [evalPure] at hev; done) | skip
      case nils =>
        simp only [evalPure, Option.some.injEq, Prod.mk.injEq] at hev; obtain ⟨rfl, rfl⟩ := hev
        have hxx : ρ x = .slice none 0 0 := by generalize hy : ρ x = y at ha; cases ha; rfl
        have := Lib.run_unsafeSliceData_nil (P := P) (w := w) argTypes oper.type 0 0
        rw [← hxx, ← em] at this
        exact left_val ⟨_, C, w, this, .refl C, hi, .nilp, .refl _ _⟩
      case own l ver n =>
        simp only [evalPure] at hev
        split at hev
        · rename_i q hq
          split at hq
          · rename_i h0
            subst h0
            split at hq
            · rename_i tge sz ver' wr hl
              split at hq
              · rename_i hver
                subst hver
                injection hq with hq; subst hq
                simp only [Option.some.injEq, Prod.mk.injEq] at hev; obtain ⟨rfl, rfl⟩ := hev
                have hxx : ρ x = .slice none 0 0 := by
                  generalize hy : ρ x = y at ha
                  cases ha with
                  | ownnil _ _ _ => rfl
                  | own _ _ _ r hr hcap =>
                    rcases hi.ok l _ hl with ⟨k1, _⟩ | ⟨r', cur, k1, k2, k3, k4, k5, k6, k7, k8, k8', k9, k10, k11, k12⟩
                    · rw [hr] at k1; cases k1
                    · exact absurd rfl (k12.2 (fun e => by cases e))
                have := Lib.run_unsafeSliceData_nil (P := P) (w := w) argTypes oper.type 0 0
                rw [← hxx, ← em] at this
                exact left_val ⟨_, C, w, this, .refl C, hi, .nilp, .refl _ _⟩
              · cases hq
            · cases hq
          · rename_i hne
            injection hq with hq; subst hq
            simp only [Option.some.injEq, Prod.mk.injEq] at hev; obtain ⟨rfl, rfl⟩ := hev
            generalize hy : ρ x = y at ha
            cases ha with
            | ownnil _ _ _ => exact absurd rfl hne
            | own _ _ _ r hr hcap =>
              have := Lib.run_unsafeSliceData_row (P := P) (w := w) argTypes oper.type ⟨r.block, 0, none⟩ n r.cap (by omega)
              rw [← hy, ← em] at this
              refine left_val ⟨_, C, w, this, .refl C, hi, ?_, .refl _ _⟩
              have := Rel.eptr (C := C) l ver 0 0 r hr
              simpa using this
        · cases hev
    · cases hc
  · -- the string
    rename_i args argTypes
    split at hc
    · rename_i p n pt it hargs htys
      have eargs : args = #[p, n] := by rw [← Array.toList_inj]; simpa using hargs
      have etys : argTypes = #[pt, it] := by rw [← Array.toList_inj]; simpa using htys
      subst eargs etys
      split at hc
      · rename_i e hp
        split at hc
        · rename_i hcell
          simp only [Option.some.injEq, Prod.mk.injEq] at hc; obtain ⟨rfl, rfl⟩ := hc
          obtain ⟨a, b, rfl, h1, h2⟩ := two_vals hrel
          have em : #[p, n].map ρ = #[ρ p, ρ n] := by simp
          simp only [evalAO, AO.quiet, Bool.false_eq_true, if_false] at hev
          cases a <;> first | (simp [evalEff] at hev; done) | skip
          case nilp =>
            cases b <;> first | (simp [evalEff] at hev; done) | skip
            rename_i k q
            cases k <;> first | (simp [evalEff] at hev; done) | skip
            simp only [evalEff] at hev
            split at hev
            · rename_i hq; subst hq
              simp only [Option.some.injEq, Prod.mk.injEq] at hev; obtain ⟨rfl, rfl⟩ := hev
              have := Lib.run_unsafeString_none (P := P) w pt it oper.type none
              rw [← int_inv h2] at this
              have hpp : ρ p = .pointer none := by generalize hy : ρ p = y at h1; cases h1; rfl
              rw [← hpp, ← em] at this
              exact left_val ⟨_, C, w, this, .refl C, hi, .str [], .refl _ _⟩
            · cases hev
          case eptr l ver i off =>
            cases i <;> first | (simp [evalEff] at hev; done) | skip
            cases off <;> first | (simp [evalEff] at hev; done) | skip
            cases b <;> first | (simp [evalEff] at hev; done) | skip
            rename_i k q
            cases k <;> first | (simp [evalEff] at hev; done) | skip
            simp only [evalEff] at hev
            split at hev
            · rename_i tg ver' rows hl
              split at hev
              · rename_i hcc
                obtain ⟨rfl, rfl, c1, rfl, c2⟩ := hcc
                simp only [Option.map_eq_some_iff, Prod.mk.injEq] at hev
                obtain ⟨bs, hbs, rfl, rfl⟩ := hev
                have := ustr_sound (ty := oper.type) (it := it) hi hp hcell hl h1 c1 c2 hbs
                rw [← int_inv h2, ← em] at this
                exact left_val this
              · cases hev
            · cases hev
        · cases hc
      · cases hc
    · cases hc
  · cases hc

end
end Go.Proofs.YtmjdgpiofhildaaGreatDoor

namespace Go.Proofs.YtmjdgpiofhildaaGreatDoor
open Go.RowKit
section
variable {P : Program} {B : Base} {C D : Cx} {h : Heap} {w w' : World} {G : Gam}

/-- A block that says something else of the same world. -/
theorem Inv.same (hi : Inv B C h w) {l : Nat} {blk blk' : Blk} (hl : h[l]? = some blk) (hok : BlkOK B C w l blk') (hb : ∀ b, blockOf C l blk' = some b → blockOf C l blk = some b)
    (hfv : ∀ ne tg sz ver rows wr, blk' = .arrX ne tg sz ver rows wr → ∀ v, ver < v → C.ar l v = none) : Inv B C (h.set l blk') w := by
  refine hi.turn hl (.refl C) (Nat.le_refl _) (fun _ _ _ => ⟨rfl, fun _ => rfl⟩) hi.im hi.one hok (fun b k => .inl (hb b k)) hi.fr (fun k ne tg sz ver rows wr hk v hv => ?_)
  rw [List.getElem?_set] at hk
  by_cases e : l = k
  · subst e
    rw [if_pos rfl, if_pos (List.getElem?_eq_some_iff.1 hl).1] at hk
    injection hk with hk
    exact hfv _ _ _ _ _ _ hk v hv
  · rw [if_neg e] at hk; exact hi.fv k _ _ _ _ _ _ hk v hv

theorem ownsL_app : ∀ (as bs : List AV), ownsL (as ++ bs) = ownsL as ++ ownsL bs
  | [], _ => rfl
  | a :: as, bs => by simp only [List.cons_append, ownsL, ownsL_app as bs, List.append_assoc]

theorem viewL_app : ∀ {as bs vs us : List AV}, viewL h as = some vs → viewL h bs = some us → viewL h (as ++ bs) = some (vs ++ us)
  | [], bs, vs, us, h1, h2 => by simp only [viewL] at h1; injection h1 with h1; subst h1; exact h2
  | a :: as, bs, vs, us, h1, h2 => by
    simp only [viewL] at h1
    split at h1
    · rename_i v vs' k1 k2
      injection h1 with h1; subst h1
      simp only [List.cons_append, viewL, k1, viewL_app k2 h2]
    · cases h1

theorem viewL_len : ∀ {as vs : List AV}, viewL h as = some vs → vs.length = as.length
  | [], vs, h1 => by simp only [viewL] at h1; injection h1 with h1; subst h1; rfl
  | a :: as, vs, h1 => by
    simp only [viewL] at h1
    split at h1
    · rename_i v vs' k1 k2
      injection h1 with h1; subst h1
      simp [viewL_len k2]
    · cases h1

theorem viewRows_flat : ∀ {rows rows' : List (List AV)}, viewRows h rows = some rows' → viewL h rows.flatten = some rows'.flatten ∧ rows'.length = rows.length ∧ ∀ n : Nat, (∀ r ∈ rows, r.length = n) → ∀ r ∈ rows', r.length = n
  | [], rows', h1 => by simp only [viewRows] at h1; injection h1 with h1; subst h1; exact ⟨rfl, rfl, fun _ _ r hr => by cases hr⟩
  | r :: rs, rows', h1 => by
    simp only [viewRows] at h1
    split at h1
    · rename_i v vs k1 k2
      injection h1 with h1; subst h1
      obtain ⟨q1, q2, q3⟩ := viewRows_flat k2
      refine ⟨by simpa using viewL_app k1 q1, by simp [q2], fun n hn x hx => ?_⟩
      rcases List.mem_cons.1 hx with rfl | hx
      · rw [viewL_len k1]; exact hn r (by simp)
      · exact q3 n (fun y hy => hn y (by simp [hy])) x hx
    · cases h1

theorem freezeAll_nested : ∀ (ls : List Nat) (h : Heap) {l sz ver : Nat} {tg : Option TypeId} {rows : List (List AV)} {wr : Bool}, h[l]? = some (.arrX true tg sz ver rows wr) → (freezeAll h ls)[l]? = some (.arrX true tg sz ver rows wr)
  | [], _, _, _, _, _, _, _, hl => hl
  | k :: ks, h, l, sz, ver, tg, rows, wr, hl => by
    refine freezeAll_nested ks _ ?_
    unfold freeze1
    split
    · rename_i tg' sz' ver' rows' wr' hk
      rw [List.getElem?_set]
      by_cases e : k = l
      · subst e; rw [hl] at hk; injection hk with hk; cases hk
      · rw [if_neg e]; exact hl
    · exact hl

theorem settle1_sound (hi : Inv B C h w) {v : AV} {h1 : Heap} (hs : settle1 h v = some h1) : ∃ D, C.Le D ∧ Inv B D h1 w := by
  unfold settle1 at hs
  split at hs
  · rename_i l ver0 n0
    split at hs
    · rename_i tg sz ver rows wr hl
      simp only [Option.map_eq_some_iff] at hs
      obtain ⟨rows', hv, rfl⟩ := hs
      obtain ⟨D, d1, d2, d3, d4, d5⟩ := freezeAll_inv (ownsL rows.flatten) hi
      have hl2 := freezeAll_nested (ownsL rows.flatten) h hl
      obtain ⟨v1, v2, v3⟩ := viewRows_flat hv
      refine ⟨D, d1, d2.same hl2 ?_ (fun b hb => hb) (fun ne tg' sz' ver' rows2 wr' e v hv => ?_)⟩
      · rcases d2.ok l _ hl2 with ⟨k1, k2⟩ | ⟨r, cur, k1, k2, k3, k4, k5, k6, k7, k8, k8', k9, k10, k11, k12⟩
        · subst k2
          simp only [viewRows, Option.some.injEq] at hv
          exact .inl ⟨k1, hv.symm⟩
        · have k8c : RelL C rows.flatten (cur.toList.take (rows.length * r.size)) := by
            rcases hi.ok l _ hl with ⟨q1, q2⟩ | ⟨r', cur', q1, q2, q3, q4, q5, q6, q7, q8, _⟩
            · rw [d4] at k1; rw [k1] at q1; cases q1
            · rw [d4] at k1; rw [k1] at q1; injection q1 with q1; injection q1 with q1; subst q1
              rw [k6] at q6; injection q6 with q6; injection q6 with q6; subst q6
              exact q8
          have hrel := viewL_rel hi (I := D.im) d1.im rows.flatten rows'.flatten _ d5 v1 k8c
          refine .inr ⟨r, cur, k1, k2, by rw [v2]; exact k3, k4, v3 _ k5, k6, k7, ?_, ?_, k9, ?_, k11, k12.len (by rw [v2]; exact Nat.le_refl _)⟩
          · rw [v2]; exact hrel
          · rw [v2]; exact k8'
          · rw [v2]; exact k10
      · injection e with e000 e00 e0 e1; subst e1
        exact d2.fv l _ _ _ _ _ _ hl2 v hv
    · injection hs with hs; subst hs; exact ⟨C, .refl C, hi⟩
  · injection hs with hs; subst hs; exact ⟨C, .refl C, hi⟩

theorem settleL_sound : ∀ {vs : List AV} {C : Cx} {h h1 : Heap}, Inv B C h w → settleL h vs = some h1 → ∃ D, C.Le D ∧ Inv B D h1 w
  | [], C, h, h1, hi, hs => by simp only [settleL] at hs; injection hs with hs; subst hs; exact ⟨C, .refl C, hi⟩
  | a :: as, C, h, h1, hi, hs => by
    simp only [settleL] at hs
    split at hs
    · rename_i h2 h3
      obtain ⟨D, d1, d2⟩ := settle1_sound hi h3
      obtain ⟨E, e1, e2⟩ := settleL_sound d2 hs
      exact ⟨E, d1.trans e1, e2⟩
    · cases hs

/-- A place's array, given up; a nil slice takes its place. -/
theorem slot_sound (hi : Inv B C h w) {p sz ver : Nat} {ne : Bool} {tg : Option TypeId} {rows : List (List AV)} {wr : Bool} (hl : h[p]? = some (.arrX ne tg sz ver rows wr)) :
    Inv B (C.addAr p (ver + 1) none) (h.set p (.arr sz (ver + 1) [] true)) w ∧ Rel (C.addAr p (ver + 1) none) (.own p (ver + 1) 0) (.slice none 0 0) ∧ C.Le (C.addAr p (ver + 1) none) := by
  have hn : C.ar p (ver + 1) = none := hi.fv p _ _ _ _ _ _ hl (ver + 1) (by omega)
  have he := ext_addAr (w := w) none hn
  have har : (C.addAr p (ver + 1) none).ar p (ver + 1) = some none := by simp [Cx.addAr]
  have hpl : p < h.length := (List.getElem?_eq_some_iff.1 hl).1
  refine ⟨?_, .ownnil _ _ har, he.le⟩
  refine hi.turn hl he.le (Nat.le_refl _) (fun _ _ _ => ⟨rfl, fun _ => rfl⟩) hi.im hi.one (.inl ⟨har, rfl⟩) (fun b hb => by simp [blockOf, har] at hb) (fun k hk => ?_) (fun k ne2 tg2 sz2 ver2 rows2 wr2 hk v hv => ?_)
  · have := hi.fr k hk
    refine ⟨this.1, fun v => ?_⟩
    simp only [Cx.addAr]; rw [if_neg (by omega)]; exact this.2 v
  · simp only [Cx.addAr]
    rw [List.getElem?_set] at hk
    by_cases ek : p = k
    · subst ek
      rw [if_pos rfl, if_pos hpl] at hk
      injection hk with hk; injection hk with hk000 hk00 hk0 hk; subst hk
      rw [if_neg (by omega)]
      exact hi.fv p _ _ _ _ _ _ hl v (by omega)
    · rw [if_neg ek] at hk
      rw [if_neg (fun x => ek x.1.symm)]
      exact hi.fv k _ _ _ _ _ _ hk v hv

theorem pre_sound (hi : Inv B C h w) {k : PK} {vs vs1 : List AV} {xs : List Value} {h1 : Heap} (hr : RelL C vs xs) (hp : preAV k h vs = some (h1, vs1)) : ∃ D, C.Le D ∧ Inv B D h1 w ∧ RelL D vs1 xs := by
  cases k with
  | settle =>
    simp only [preAV, Option.map_eq_some_iff, Prod.mk.injEq] at hp
    obtain ⟨h2, h3, rfl, rfl⟩ := hp
    obtain ⟨D, d1, d2⟩ := settleL_sound hi h3
    exact ⟨D, d1, d2, hr.mono d1⟩
  | nest =>
    have stay : some (h, vs) = some (h1, vs1) → ∃ D, C.Le D ∧ Inv B D h1 w ∧ RelL D vs1 xs := fun e => by
      injection e with e; injection e with e1 e2; subst e1 e2; exact ⟨C, .refl C, hi, hr⟩
    simp only [preAV] at hp
    split at hp
    · rename_i l ver i off v
      split at hp
      · rename_i tg sz ver' rows hl
        split at hp
        · exact stay hp
        · injection hp with hp; injection hp with e1 e2; subst e1 e2
          refine ⟨C, .refl C, hi.same hl ?_ (fun b hb => hb) (fun ne tg' sz' ver2 rows2 wr' e v hv => ?_), hr⟩
          · rcases hi.ok l _ hl with ⟨k1, k2⟩ | ⟨r, cur, k1, k2, k3, k4, k5, k6, k7, k8, k9⟩
            · exact .inl ⟨k1, k2⟩
            · exact .inr ⟨r, cur, k1, k2, k3, k4, k5, k6, k7, k8.mono C.frozen_le, k9⟩
          · injection e with e000 e00 e0 e1; subst e1
            exact hi.fv l _ _ _ _ _ _ hl v hv
      · exact stay hp
    · exact stay hp
  | spare m =>
    simp only [preAV, Option.some.injEq, Prod.mk.injEq] at hp
    obtain ⟨rfl, rfl⟩ := hp
    obtain ⟨a1, a2, a3⟩ := add_nil hi m
    exact ⟨_, a3, a1, hr.mono a3⟩
  | slot p =>
    simp only [preAV] at hp
    split at hp
    · rename_i r
      split at hp
      · rename_i ne tg sz ver rows wr hl
        injection hp with hp; injection hp with e1 e2; subst e1 e2
        obtain ⟨a1, a2, a3⟩ := slot_sound hi hl
        obtain ⟨v, us, rfl, r1, r2⟩ := hr.inv_cons
        cases r1
        exact ⟨_, a3, a1, .cons a2 (r2.mono a3)⟩
      · cases hp
    · injection hp with hp; injection hp with e1 e2; subst e1 e2; exact ⟨C, .refl C, hi, hr⟩

theorem pres_sound : ∀ {ks : List PK} {C : Cx} {h h1 : Heap} {vs vs1 : List AV} {xs : List Value}, Inv B C h w → RelL C vs xs → preAVs ks h vs = some (h1, vs1) → ∃ D, C.Le D ∧ Inv B D h1 w ∧ RelL D vs1 xs
  | [], C, h, h1, vs, vs1, xs, hi, hr, hp => by simp only [preAVs] at hp; injection hp with hp; injection hp with e1 e2; subst e1 e2; exact ⟨C, .refl C, hi, hr⟩
  | k :: ks, C, h, h1, vs, vs1, xs, hi, hr, hp => by
    simp only [preAVs] at hp
    split at hp
    · rename_i h2 vs2 h3
      obtain ⟨D, d1, d2, d3⟩ := pre_sound hi hr h3
      obtain ⟨E, e1, e2, e3⟩ := pres_sound d2 d3 hp
      exact ⟨E, d1.trans e1, e2, e3⟩
    · cases hp

/-- A slice written out whose nil slices stay what they are. -/
def compK (P : Program) : Op → Option (AO × List Operand)
  | .buildSlice t len parts => match P.underlying t with
    | some (.slice e) => (match tsize P e, tzero P e with
      | some n, some _ => if parts.toList.map (·.1) = List.range len then some (.bslK n, parts.toList.map (·.2)) else none
      | _, _ => none)
    | _ => none
  | _ => none

theorem K_sound (hi : Inv B C h w) {o : Op} {ao : AO} {xs : List Operand} (hc : compK P o = some (ao, xs)) {vals : List AV} {v : AV} {h' : Heap} {ρ : Operand → Value}
    {oper : Oper} (hop : oper.op = o) (hrel : RelL C vals (xs.map ρ)) (hev : evalAO G h ao vals = some (v, h')) : Left P B C w ((execOp ρ oper).run P w) v h' := by
  have ex : execOp ρ oper = execOp ρ { oper with op := o } := by rw [← hop]
  rw [ex]
  clear ex hop
  unfold compK at hc
  split at hc
  · rename_i t len parts
    split at hc
    · rename_i e ht
      split at hc
      · rename_i n z hn hz
        split at hc
        · rename_i hp
          simp only [Option.some.injEq, Prod.mk.injEq] at hc; obtain ⟨rfl, rfl⟩ := hc
          simp only [evalAO, AO.quiet, Bool.false_eq_true, if_false] at hev
          exact left_val (bslK_sound hi ht hn hz hp hrel hev)
        · cases hc
      · cases hc
    · cases hc
  · cases hc

end
end Go.Proofs.YtmjdgpiofhildaaGreatDoor

namespace Go.Proofs.YtmjdgpiofhildaaGreatDoor
open Go.RowKit

/-- The cells of I, in w. -/
structure Holds (I : Nat → Nat → Option Value) (w : World) : Prop where
  cell : ∀ b o u, I b o = some u → w.cell? ⟨b, o, none⟩ = some u
  one : ∀ b o u, I b o = some u → u.oneCell' = true

/-- J says more than I, and of the blocks of w the same. -/
structure Grown (w : World) (I J : Nat → Nat → Option Value) : Prop where
  up : ∀ b o u, I b o = some u → J b o = some u
  down : ∀ b o u, J b o = some u → b < w.heap.size → I b o = some u

/-- What is said of package-level variables. -/
structure GvHolds (gv : Gv) (I : Nat → Nat → Option Value) (w : World) : Prop where
  gl : ∀ g r, gv g = some r → Rel (Cx.pure I) (.fptr r 0) (.pointer (some ⟨g, 0, none⟩))
  tb : ∀ g cs, gv.tb g = some cs → ∃ T fz, w.heap[g]? = some (.cells cs.toArray T fz)

/-- What a function that keeps to itself hands back. -/
def PureOK (P : Program) (gv : Gv) (f : FuncId) (F : List AV → Option AV) : Prop :=
  ∀ (I : Nat → Nat → Option Value) (w : World) (args : List AV) (r : AV) (vals : Array Value), Holds I w → GvHolds gv I w → RelL (Cx.pure I) args vals.toList → F args = some r →
    Calls P f vals w fun e w' => ∃ v J, e = .returned v ∧ Grown w I J ∧ Holds J w' ∧ Rel (Cx.pure J) r v ∧ Below w.heap.size w w'

/-- What a function that turns what it is handed hands back. -/
def GenOK (P : Program) (gv : Gv) (f : FuncId) (F : List AV → Heap → Option (AV × Heap)) : Prop :=
  ∀ (B : Base) (C : Cx) (h : Heap) (w : World) (args : List AV) (r : AV) (h' : Heap) (vals : Array Value), B.gv = gv → Inv B C h w → RelL C args vals.toList → F args h = some (r, h') →
    Calls P f vals w fun e w' => ∃ v D, e = .returned v ∧ C.Le D ∧ Inv B D h' w' ∧ Rel D r v ∧ Keep B w w'

/-- What yield does, is what is said of it. -/
def YOK (P : Program) (B : Base) (Y : Nat → List AV → Heap → Option (AV × Heap)) : Prop :=
  ∀ (B' : Base), B.Up B' → ∀ (k : Nat) (args : List AV) (h : Heap) (v : AV) (h' : Heap), Y k args h = some (v, h') → ∀ (C : Cx) (w : World) (b : Nat) (vals : Array Value), C.bl k = some b → Inv B' C h w → RelL C args vals.toList →
    YieldAt Fence.wide 0 P b vals w fun e w' => ∃ u D, e = .returned u ∧ C.Le D ∧ Inv B' D h' w' ∧ Rel D v u ∧ Keep B' w w'

/-- The rounds of an iterator, from the j-th on: what they leave. -/
def runYN (F : RdF) (y : List AV → Heap → Option (AV × Heap)) : Nat → Nat → Heap → Heap → Prop
  | 0, _, _, _ => False
  | N + 1, j, h, h' => match F j h with
    | none => False
    | some (none, h1) => h' = h1
    | some (some args, h1) => match y args h1 with
      | some (.bool true, h2) => runYN F y N (j + 1) h2 h'
      | some (.bool false, h2) => h' = h2
      | _ => False

/-- An iterator hands to yield what is said, as long as yield says so. -/
def ItOK (P : Program) (gv : Gv) (f : FuncId) (F : ItF) : Prop :=
  ∀ (B : Base) (C : Cx) (h h' : Heap) (w : World) (caps : List AV) (vals : Array Value) (k b N : Nat) (Y : Nat → List AV → Heap → Option (AV × Heap)), B.gv = gv → Inv B C h w → RelL C caps vals.toList → C.bl k = some b → YOK P B Y →
    runYN (F caps h) (Y k) N 0 h h' →
    Calls P f (#[.func (.yield b) #[] #[]] ++ vals) w fun e w' => ∃ v D, e = .returned v ∧ C.Le D ∧ Inv B D h' w' ∧ Keep B w w'

def CT.OK (P : Program) (gv : Gv) (f : FuncId) : CT → Prop
  | .pure F => PureOK P gv f F
  | .gen F => GenOK P gv f F
  | .iter F => ItOK P gv f F

/-- A call of it enters it. -/
def Enters (P : Program) (f : FuncId) : Prop := ∀ args w, (callFunc f args).run P w = .ok (.enter f args) w

structure GamOK (P : Program) (gv : Gv) (G : Gam) : Prop where
  enters : ∀ f c, G f = some c → Enters P f
  ok : ∀ f c, G f = some c → c.OK P gv f
  noy : ∀ k args h, G.y k args h = none

/-- What is known, at a base; yield, too. -/
structure GamB (P : Program) (B : Base) (G : Gam) : Prop where
  enters : ∀ f c, G f = some c → Enters P f
  ok : ∀ f c, G f = some c → c.OK P B.gv f
  y : YOK P B G.y

theorem GamOK.b {P : Program} {B : Base} {G : Gam} (h : GamOK P B.gv G) : GamB P B G := ⟨h.enters, h.ok, fun B' _ k args hh v h' e => by rw [h.noy] at e; cases e⟩
theorem GamB.up {P : Program} {B D : Base} {G : Gam} (h : GamB P B G) (hu : B.Up D) : GamB P D G := by
  refine ⟨h.enters, ?_, fun E hE => h.y E (hu.trans hE)⟩
  obtain ⟨rc, cx, rfl, _, _⟩ := hu
  exact h.ok
theorem GamOK.withY {P : Program} {B : Base} {G : Gam} {Y : Nat → List AV → Heap → Option (AV × Heap)} (h : GamOK P B.gv G) (hy : YOK P B Y) : GamB P B { G with y := Y } := ⟨h.enters, h.ok, hy⟩

section
variable {P : Program} {B : Base} {C D : Cx} {h : Heap} {w w' : World} {G : Gam}

theorem Inv.holds (hi : Inv B C h w) : Holds C.im w := ⟨hi.im, hi.one⟩

mutual
theorem scalar_rel : ∀ {v : AV} {u : Value}, scalar v = true → Rel C v u → Rel D v u
  | .bool b, u, _, h => by rw [bool_inv h]; exact .bool b
  | .int k n, u, _, h => by rw [int_inv h]; exact .int k n
  | .str s, u, _, h => by rw [str_inv h]; exact .str s
  | .tup vs, u, hs, h => by
    cases h with
    | tup cs us hl h => exact .tup _ _ hl (fun i c v hc hv => scalar_relL (by simpa [scalar] using hs) (us := us.toList) ⟨by simpa using hl, fun i c v hc hv => h i c v hc (by simpa using hv)⟩ |>.2 i c v hc (by simpa using hv))
  | .agg _, _, hs, _ | .sl _, _, hs, _ | .tsl _, _, hs, _ | .nils, _, hs, _ | .own _ _ _, _, hs, _ | .ptr _ _, _, hs, _ | .fptr _ _, _, hs, _ | .eptr _ _ _ _, _, hs, _ | .gptr _ _, _, hs, _ | .nilp, _, hs, _
  | .map _, _, hs, _ | .nilm, _, hs, _ | .fn _ _, _, hs, _ | .nilf, _, hs, _ | .iface _ _, _, hs, _ | .nili, _, hs, _ | .yld _, _, hs, _ | .junk, _, hs, _ => by simp [scalar] at hs
theorem scalar_relL : ∀ {vs : List AV} {us : List Value}, scalarL vs = true → RelL C vs us → RelL D vs us
  | [], us, _, h => by rw [h.inv_nil]; exact .nil
  | a :: as, us, hs, h => by
    obtain ⟨u, us', rfl, h1, h2⟩ := h.inv_cons
    simp only [scalarL, Bool.and_eq_true] at hs
    exact .cons (scalar_rel hs.1 h1) (scalar_relL hs.2 h2)
end

/-- A call, of whatever kind. -/
theorem call_sound (hG : GamB P B G) (hi : Inv B C h w) {f : FuncId} {args : List AV} {vals : Array Value} {r : AV} {h' : Heap} (hr : RelL C args vals.toList) (he : callAV G f args h = some (r, h')) :
    Calls P f vals w fun e w' => ∃ v D, e = .returned v ∧ C.Le D ∧ Inv B D h' w' ∧ Rel D r v ∧ Keep B w w' := by
  unfold callAV at he
  split at he
  · rename_i F hf
    have hok : PureOK P B.gv f F := hG.ok f _ hf
    split at he
    · rename_i us hus
      split at he
      · rename_i r' hF
        have hfz : frzL h args = some (us, freezeAll h (ownsL args)) := by simp [frzL, hus]
        obtain ⟨D, d1, d2, d3, d4, d5⟩ := frzL_sound hi hfz hr
        have hc := hok D.im w us r' vals d2.holds ⟨d2.gl, fun g cs hg => (d2.tb g cs hg).2⟩ d3 hF
        split at he
        · rename_i hs
          simp only [Option.some.injEq, Prod.mk.injEq] at he; obtain ⟨rfl, rfl⟩ := he
          refine hc.mono fun e w' hk => ?_
          obtain ⟨v, J, k1, k2, k3, k4, k5⟩ := hk
          exact ⟨v, C, k1, .refl C, hi.grow k5, scalar_rel hs k4, below_of hi k5⟩
        · simp only [Option.some.injEq, Prod.mk.injEq] at he; obtain ⟨rfl, rfl⟩ := he
          refine hc.mono fun e w' hk => ?_
          obtain ⟨v, J, k1, k2, k3, k4, k5⟩ := hk
          have hle : D.Le { D with im := J } := ⟨k2.up, fun _ _ x => x, fun _ _ _ x => x⟩
          have hext : Ext w D { D with im := J } := ⟨hle, fun b o hb => by
            show J b o = D.im b o
            cases hd : D.im b o with
            | some u => exact k2.up _ _ _ hd
            | none =>
              cases hj : J b o with
              | none => rfl
              | some u => have := k2.down _ _ _ hj hb; rw [hd] at this; cases this⟩
          exact ⟨v, { D with im := J }, k1, d1.trans hle, d2.extend hext k5 k3.cell k3.one d2.fr d2.fv, k4.mono ⟨fun _ _ _ x => x, (fun _ _ x => by cases x), (fun _ _ _ x => by cases x)⟩, below_of hi k5⟩
      · cases he
    · cases he
  · rename_i F hf
    exact hG.ok f _ hf B C h w args r h' vals rfl hi hr he
  · cases he

/-! ### An operation of a region -/

def compCall : Op → Option (AO × List Operand)
  | .call { callee := .value (.func f), args, .. } => some (.call f, args.toList)
  | .call { callee := .value x, args, .. } => some (.callv, x :: args.toList)
  | _ => none

/-- Bytes as a string; copy. -/
def compMore (P : Program) : Op → Option (AO × List Operand)
  | .binOp op t x (.const (.slice none 0 0)) _ => match P.underlying t with
    | some (.slice _) => (match op with
      | .eql => some (.isnil false, [x])
      | .neq => some (.isnil true, [x])
      | _ => none)
    | _ => none
  | .binOp op t x (.const .nilIface) _ => match P.underlying t with
    | some (.interface _) => (match op with
      | .eql => some (.isnili false, [x])
      | .neq => some (.isnili true, [x])
      | _ => none)
    | _ => none
  | .convert s d x => match P.underlying s, P.underlying d with
    | some (.slice e), some .string => (match P.underlying e with
      | some (.int .u8) => some (.b2s, [x])
      | _ => none)
    | _, _ => none
  | .call { callee := .builtin .copy, args, argTypes } => match args.toList, argTypes.toList with
    | [s, x], [t, tx] => (match P.underlying t with
      | some (.slice e) => (match tsize P e, P.underlying tx with
        | some n, some (.slice _) => some (.cpy false n, [s, x])
        | some n, some .string => if n = 1 then some (.cpy true n, [s, x]) else none
        | _, _ => none)
      | _ => none)
    | _, _ => none
  | _ => none

/-- A slice of an array of one's own: where it is said that it is one. -/
def compSlcf (P : Program) (own : Bool) : Op → Option (AO × List Operand)
  | .slice t x lo hi mx => if own then (match P.underlying t with
    | some (.slice e) => (match tsize P e with
      | some n => some (.slcf n lo.isSome hi.isSome mx.isSome, x :: (lo.toList ++ hi.toList ++ mx.toList))
      | none => none)
    | _ => none) else none
  | _ => none

def compOp (P : Program) (own : Bool) (o : Oper) : Option (AO × List Operand) :=
  match compCall o.op with
  | some r => some r
  | none => match compSlcf P own o.op with
    | some r => some r
    | none => match compB P own o.op with
      | some r => some r
      | none => match compEff P own o.type o.op with
        | some r => some r
        | none => match compMore P o.op with
          | some r => some r
          | none => compPure P o.op

/-- What comes of an operation: a value, nothing, or a call. -/
def Comes1 (P : Program) (R : Value → World → Prop) : Result Next → Prop
  | .ok (.value u) w' => R u w'
  | .ok .skip w' => R undef w'
  | .ok (.enter f args) w' => Calls P f args w' fun e w'' => ∃ v, e = .returned v ∧ R v w''
  | .ok (.round l f tmps assign body) w' => RoundIn Fence.wide 0 P l f tmps assign body w' fun e w'' => ∃ v, e = .returned v ∧ R v w''
  | _ => False

theorem ofValue_func (f : FuncId) (args : Array Value) (caps : Array Value) : Deferred.ofValue (.func (.func f) #[] caps) args = (pure { target := .fn (.func f) caps, args := args } : Sem Deferred) := by
  simp [Deferred.ofValue]

theorem enter_sound (hG : GamB P B G) (hi : Inv B C h w) {f : FuncId} {args : List AV} {vals : Array Value} {r : AV} {h' : Heap} (hr : RelL C args vals.toList) (he : callAV G f args h = some (r, h')) :
    Comes1 P (fun u w' => ∃ D, C.Le D ∧ Inv B D h' w' ∧ Rel D r u ∧ Keep B w w') ((callFunc f vals).run P w) := by
  have hen : Enters P f := by
    cases hg : G f with
    | none => simp [callAV, hg] at he
    | some c => exact hG.enters f c hg
  rw [hen vals w]
  exact (call_sound hG hi hr he).mono fun e w' ⟨v, D, k1, k2⟩ => ⟨v, k1, D, k2⟩

theorem run_eqGuard_sl (op : BinOp) (t : TypeId) (x y : Operand) (p q : Option Addr) (l c l2 c2 : Nat) (w : World) : (eqGuard op t x y (.slice p l c) (.slice q l2 c2)).run P w = .ok () w := by
  cases op <;> simp [eqGuard]
theorem run_equalIn_nil {t e : TypeId} {p : Option Addr} {l c : Nat} (d : Nat) (ht : P.underlying t = some (.slice e)) : (Op.equalIn (d + 1) t (.slice p l c) (.slice none 0 0)).run P w = .ok (!p.isSome) w := by
  rw [Op.equalIn]
  simp only [Sem.run_bind, run_underlying ht, Result.andThen_ok]
  cases p <;> rfl

theorem run_equalIn_nili {t : TypeId} {ms : _} {x : Value} (d : Nat) (ht : P.underlying t = some (.interface ms)) {b : Bool} (hx : (x = .nilIface ∧ b = false) ∨ ((∃ s v, x = .iface s v) ∧ b = true)) : (Op.equalIn (d + 1) t x .nilIface).run P w = .ok (!b) w := by
  rw [Op.equalIn]
  simp only [Sem.run_bind, run_underlying ht, Result.andThen_ok]
  rcases hx with ⟨rfl, rfl⟩ | ⟨⟨s, v, rfl⟩, rfl⟩ <;> rfl
theorem thereI_sound {a : AV} {x : Value} {b : Bool} (hx : Rel C a x) (h : thereI a = some b) : (x = .nilIface ∧ b = false) ∨ ((∃ s v, x = .iface s v) ∧ b = true) := by
  cases a <;> first | (simp [thereI] at h; done) | skip
  case nili => simp only [thereI, Option.some.injEq] at h; subst h; cases hx; exact .inl ⟨rfl, rfl⟩
  case iface t v => simp only [thereI, Option.some.injEq] at h; subst h; cases hx; exact .inr ⟨⟨_, _, rfl⟩, rfl⟩

theorem there_sound {a : AV} {x : Value} {b : Bool} (hx : Rel C a x) (h : there a = some b) : ∃ p l c, x = .slice p l c ∧ p.isSome = b := by
  cases a <;> first | (simp [there] at h; done) | skip
  case nils => simp only [there, Option.some.injEq] at h; subst h; cases hx; exact ⟨_, _, _, rfl, rfl⟩
  case sl rows =>
    cases rows with
    | nil => simp [there] at h
    | cons r rs => simp only [there, Option.some.injEq] at h; subst h; cases hx; exact ⟨_, _, _, rfl, rfl⟩
  case tsl rows =>
    cases rows with
    | nil => simp [there] at h
    | cons r rs => simp only [there, Option.some.injEq] at h; subst h; cases hx; exact ⟨_, _, _, rfl, rfl⟩
  case own l ver n =>
    cases n with
    | zero => simp [there] at h
    | succ n => simp only [there, Option.some.injEq] at h; subst h; cases hx; exact ⟨_, _, _, rfl, rfl⟩

theorem more_sound (hi : Inv B C h w) {oper : Oper} {ao : AO} {xs : List Operand} (hc : compMore P oper.op = some (ao, xs)) {vals : List AV} {v : AV} {h' : Heap} {ρ : Operand → Value} (hρ : ∀ u, ρ (.const u) = u)
    (hrel : RelL C vals (xs.map ρ)) (hev : evalAO G h ao vals = some (v, h')) :
    Comes1 P (fun u w' => ∃ D, C.Le D ∧ Inv B D h' w' ∧ Rel D v u ∧ Keep B w w') ((execOp ρ oper).run P w) := by
  have ex : ∀ o, oper.op = o → execOp ρ oper = execOp ρ { oper with op := o } := fun o e => by rw [← e]
  unfold compMore at hc
  split at hc
  · rename_i op t x yt hop
    split at hc
    · rename_i e ht
      have nn : ∀ neg : Bool, (op = if neg then .neq else .eql) → ao = .isnil neg → xs = [x] → Comes1 P (fun u w' => ∃ D, C.Le D ∧ Inv B D h' w' ∧ Rel D v u ∧ Keep B w w') ((execOp ρ oper).run P w) := by
        rintro neg hop2 rfl rfl
        obtain ⟨a, rfl, ha⟩ := one_val hrel
        simp only [evalAO, AO.quiet, if_true, evalPure] at hev
        cases hb : there a with
        | none => simp [hb] at hev
        | some b =>
          simp only [hb, Option.map_some, Option.some.injEq, Prod.mk.injEq] at hev
          obtain ⟨rfl, rfl⟩ := hev
          obtain ⟨p, l, c, hx, hp⟩ := there_sound ha hb
          rw [ex _ hop]
          have : (execOp ρ { oper with op := .binOp op t x (.const (.slice none 0 0)) yt }).run P w = .ok (.value (.bool (if neg then b else !b))) w := by
            have e9 : ∀ S : Sem Value, S.run P w = .ok (.bool (if neg then b else !b)) w → Sem.run P (do pure (Next.value (← S))) w = .ok (.value (.bool (if neg then b else !b))) w := fun S hS => by simp [hS]
            refine e9 (do eqGuard op t x (.const (.slice none 0 0)) (ρ x) (ρ (.const (.slice none 0 0))); binOp op t (ρ x) (ρ (.const (.slice none 0 0))) : Sem Value) ?_
            rw [hρ, hx]
            have hq := run_equalIn_nil (P := P) (w := w) (p := p) (l := l) (c := c) 9999 ht
            rw [hp] at hq
            subst hop2
            cases neg <;> simp [run_eqGuard_sl, binOp, Op.equal, Op.maxDepth, hq]
          rw [this]
          exact ⟨C, .refl C, hi, .bool _, Keep.refl _ _⟩
      split at hc
      · simp only [Option.some.injEq, Prod.mk.injEq] at hc
        exact nn false rfl hc.1.symm hc.2.symm
      · simp only [Option.some.injEq, Prod.mk.injEq] at hc
        exact nn true rfl hc.1.symm hc.2.symm
      · cases hc
    · cases hc
  · rename_i op t x yt hop
    split at hc
    · rename_i e ht
      have nn : ∀ neg : Bool, (op = if neg then .neq else .eql) → ao = .isnili neg → xs = [x] → Comes1 P (fun u w' => ∃ D, C.Le D ∧ Inv B D h' w' ∧ Rel D v u ∧ Keep B w w') ((execOp ρ oper).run P w) := by
        rintro neg hop2 rfl rfl
        obtain ⟨a, rfl, ha⟩ := one_val hrel
        simp only [evalAO, AO.quiet, if_true, evalPure] at hev
        cases hb : thereI a with
        | none => simp [hb] at hev
        | some b =>
          simp only [hb, Option.map_some, Option.some.injEq, Prod.mk.injEq] at hev
          obtain ⟨rfl, rfl⟩ := hev
          have hx := thereI_sound ha hb
          rw [ex _ hop]
          have : (execOp ρ { oper with op := .binOp op t x (.const .nilIface) yt }).run P w = .ok (.value (.bool (if neg then b else !b))) w := by
            have e9 : ∀ S : Sem Value, S.run P w = .ok (.bool (if neg then b else !b)) w → Sem.run P (do pure (Next.value (← S))) w = .ok (.value (.bool (if neg then b else !b))) w := fun S hS => by simp [hS]
            refine e9 (do eqGuard op t x (.const .nilIface) (ρ x) (ρ (.const .nilIface)); binOp op t (ρ x) (ρ (.const .nilIface)) : Sem Value) ?_
            rw [hρ]
            have hq := run_equalIn_nili (P := P) (w := w) 9999 ht hx
            subst hop2
            rcases hx with ⟨hx, rfl⟩ | ⟨⟨s, u, hx⟩, rfl⟩ <;> rw [hx] at hq ⊢ <;> cases neg <;> simp [eqGuard, binOp, Op.equal, Op.maxDepth, hq]
          rw [this]
          exact ⟨C, .refl C, hi, .bool _, Keep.refl _ _⟩
      split at hc
      · simp only [Option.some.injEq, Prod.mk.injEq] at hc
        exact nn false rfl hc.1.symm hc.2.symm
      · simp only [Option.some.injEq, Prod.mk.injEq] at hc
        exact nn true rfl hc.1.symm hc.2.symm
      · cases hc
    · cases hc
  · rename_i s d x hop
    split at hc
    · rename_i e hs hd
      split at hc
      · rename_i he
        simp only [Option.some.injEq, Prod.mk.injEq] at hc; obtain ⟨rfl, rfl⟩ := hc
        obtain ⟨a, rfl, ha⟩ := one_val hrel
        simp only [evalAO, AO.quiet, if_true, evalPure] at hev
        cases hr : rowsOf h a with
        | none => simp [hr] at hev
        | some rows =>
          cases hb : bytesOfRows rows with
          | none => simp [hr, hb] at hev
          | some bs =>
            simp only [hr, hb, Option.map_some, Option.some.injEq, Prod.mk.injEq] at hev
            obtain ⟨rfl, rfl⟩ := hev
            have := b2s_sound hi hs he hd ha hr hb
            rw [ex _ hop]
            simp only [execOp, Sem.run_bind, this, Result.andThen_ok]
            exact ⟨C, .refl C, hi, .str _, Keep.refl _ _⟩
      · cases hc
    · cases hc
  · rename_i args argTypes hop
    split at hc
    · rename_i s x t tx hargs htys
      have eargs : args = #[s, x] := by rw [← Array.toList_inj]; simpa using hargs
      have etys : argTypes = #[t, tx] := by rw [← Array.toList_inj]; simpa using htys
      subst eargs etys
      have cp : ∀ {str : Bool} {n : Nat} {e : TypeId}, P.underlying t = some (.slice e) → tsize P e = some n → (str = true → P.underlying tx = some .string ∧ n = 1) → (str = false → ∃ e, P.underlying tx = some (.slice e)) →
          RelL C vals ([s, x].map ρ) → evalAO G h (.cpy str n) vals = some (v, h') → Comes1 P (fun u w' => ∃ D, C.Le D ∧ Inv B D h' w' ∧ Rel D v u ∧ Keep B w w') ((execOp ρ oper).run P w) := by
        intro str n e ht hn k1 k2 hrel hev
        obtain ⟨a, b, rfl, h1, h2⟩ := two_vals hrel
        simp only [evalAO, AO.quiet, Bool.false_eq_true, if_false] at hev
        cases a <;> first | (simp [evalEff] at hev; done) | skip
        rename_i l ver m
        obtain ⟨u, D, w', g1, g2, g3, g4, g5⟩ := cpy_sound (ty := oper.type) hi ht hn h1 h2 k1 k2 hev
        rw [ex _ hop]
        have em : #[s, x].map ρ = #[ρ s, ρ x] := by simp
        rw [← em] at g1
        have : (execOp ρ { oper with op := .call { callee := .builtin .copy, args := #[s, x], argTypes := #[t, tx] } }).run P w = .ok (.value u) w' := by
          have e : ∀ (S : Sem Value), S.run P w = .ok u w' → Sem.run P (do pure (Next.value (← S))) w = .ok (.value u) w' := fun S hS => by simp [hS]
          exact e _ g1
        rw [this]
        exact ⟨D, g2, g3, g4, g5⟩
      split at hc
      · rename_i e ht
        split at hc
        · rename_i n e2 hn htx
          simp only [Option.some.injEq, Prod.mk.injEq] at hc; obtain ⟨rfl, rfl⟩ := hc
          exact cp ht hn (fun e => by cases e) (fun _ => ⟨e2, htx⟩) hrel hev
        · rename_i n hn htx
          split at hc
          · rename_i h1
            simp only [Option.some.injEq, Prod.mk.injEq] at hc; obtain ⟨rfl, rfl⟩ := hc
            exact cp ht hn (fun _ => ⟨htx, h1⟩) (fun e => by cases e) hrel hev
          · cases hc
        · cases hc
      · cases hc
    · cases hc
  · cases hc

theorem op_sound (hG : GamB P B G) (hi : Inv B C h w) {own : Bool} {oper : Oper} {ao : AO} {xs : List Operand} (hc : compOp P own oper = some (ao, xs)) {vals : List AV} {v : AV} {h' : Heap} {ρ : Operand → Value}
    (hρ : ∀ u, ρ (.const u) = u) (hρf : ∀ f, ρ (.func f) = .func (.func f) #[] #[]) (hrel : RelL C vals (xs.map ρ)) (hev : evalAO G h ao vals = some (v, h')) :
    Comes1 P (fun u w' => ∃ D, C.Le D ∧ Inv B D h' w' ∧ Rel D v u ∧ Keep B w w') ((execOp ρ oper).run P w) := by
  unfold compOp at hc
  split at hc
  · -- a call
    rename_i r hcall
    injection hc with hc; subst hc
    have ex : ∀ o, oper.op = o → execOp ρ oper = execOp ρ { oper with op := o } := fun o e => by rw [← e]
    unfold compCall at hcall
    split at hcall
    · rename_i f args _ hop
      simp only [Option.some.injEq, Prod.mk.injEq] at hcall; obtain ⟨rfl, rfl⟩ := hcall
      simp only [evalAO, AO.quiet, Bool.false_eq_true, if_false, evalEff] at hev
      have hrel' : RelL C vals (args.map ρ).toList := by simpa using hrel
      have := enter_sound hG hi hrel' hev
      rw [ex _ hop]
      simpa [execOp, resolve, hρf, ofValue_func, invoke] using this
    · rename_i x args _ hnf hop
      simp only [Option.some.injEq, Prod.mk.injEq] at hcall; obtain ⟨rfl, rfl⟩ := hcall
      simp only [evalAO, AO.quiet, Bool.false_eq_true, if_false] at hev
      cases vals with
      | nil => simp [evalEff] at hev
      | cons a as =>
        obtain ⟨u, us, e, r1, r2⟩ := hrel.inv_cons
        simp only [List.map_cons, List.cons.injEq] at e
        obtain ⟨rfl, rfl⟩ := e
        cases a <;> first | (simp [evalEff] at hev; done) | skip
        case yld k =>
          simp only [evalEff] at hev
          generalize hy : ρ x = y at r1
          cases r1 with
          | yld _ b hb =>
            obtain ⟨fn, tmps, as', bd, q1, q2⟩ := hG.y B (.refl B) k as h v h' hev C w b (args.map ρ) hb hi (by simpa using r2)
            rw [ex _ hop]
            have e2 : (execOp ρ { oper with op := .call { callee := .value x, args := args, argTypes := ‹_› } }).run P w = .ok (.round b fn tmps as' bd) w := by
              simpa [execOp, resolve, hy, Deferred.ofValue, invoke] using q1
            rw [e2]
            refine RoundIn.mono q2 fun e w' hk => ?_
            obtain ⟨u, D, k1, k2⟩ := hk
            exact ⟨u, k1, D, k2⟩
        rename_i f caps
        simp only [evalEff] at hev
        generalize hy : ρ x = y at r1
        cases r1 with
        | fn _ _ cs hl hcs =>
          have hrel' : RelL C (as ++ caps) (args.map ρ ++ cs).toList := by
            rw [Array.toList_append]
            exact RelL.append (by simpa using r2) ⟨by simpa using hl, fun i c v hc hv => hcs i c v hc (by simpa using hv)⟩
          have := enter_sound hG hi hrel' hev
          rw [ex _ hop]
          simpa [execOp, resolve, hy, ofValue_func, invoke] using this
    · cases hcall
  · rename_i hnc
    split at hc
    · rename_i r hsf
      injection hc with hc; subst hc
      have ex : ∀ o, oper.op = o → execOp ρ oper = execOp ρ { oper with op := o } := fun o e => by rw [← e]
      unfold compSlcf at hsf
      split at hsf
      · rename_i t x lo hi2 mx hop
        split at hsf
        · split at hsf
          · rename_i e ht
            split at hsf
            · rename_i n hn
              simp only [Option.some.injEq, Prod.mk.injEq] at hsf; obtain ⟨rfl, rfl⟩ := hsf
              simp only [evalAO, AO.quiet, Bool.false_eq_true, if_false] at hev
              cases vals with
              | nil => simp [RelL] at hrel
              | cons a as =>
                obtain ⟨y, us, e, r1, r2⟩ := hrel.inv_cons
                injection e with e1 e2; subst e1 e2
                simp only [evalEff] at hev
                split at hev
                · rename_i l r m hargs
                  obtain ⟨l', r', m', a1, a2, a3, rfl, rfl, rfl⟩ := slcArgs_inv r2 hargs
                  obtain ⟨u, D, k1, k2, k3, k4⟩ := slcf_sound hi ht hn r1 l' r' m' hev
                  rw [ex _ hop]
                  have e9 : ∀ (S : Sem Value), S.run P w = .ok u w → Sem.run P (do pure (Next.value (← S))) w = .ok (.value u) w := fun S hS => by simp [hS]
                  have : (execOp ρ { oper with op := .slice t x lo hi2 mx }).run P w = .ok (.value u) w := by
                    refine e9 (Instr.sliceAt t (ρ x) (lo.map ρ) (hi2.map ρ) (mx.map ρ)) ?_
                    rw [a1, a2, a3]; exact k1
                  rw [this]
                  exact ⟨D, k2, k3, k4, Keep.refl _ _⟩
                · cases hev
            · cases hsf
          · cases hsf
        · cases hsf
      · cases hsf
    split at hc
    · rename_i r hcb
      injection hc with hc; subst hc
      obtain ⟨n, u, D, w', k1, k2, k3⟩ := B_sound (G := G) hi hcb rfl hrel hev
      rw [k1]
      rcases k2 with rfl | ⟨rfl, rfl⟩
      · exact ⟨D, k3⟩
      · exact ⟨D, k3⟩
    split at hc
    · rename_i r hce
      injection hc with hc; subst hc
      have hq : ao.quiet = false := by
        unfold compEff at hce
        split at hce <;> (try split at hce) <;> (try split at hce) <;> (try split at hce) <;> (try split at hce) <;> (first | (cases hce; done) | (cases hce; rfl))
      simp only [evalAO, hq, Bool.false_eq_true, if_false] at hev
      obtain ⟨n, u, D, w', k1, k2, k3⟩ := eff_sound hi hce vals v h' ρ oper hρ rfl rfl hrel hev
      rw [k1]
      rcases k2 with rfl | ⟨rfl, rfl⟩
      · exact ⟨D, k3⟩
      · exact ⟨D, k3⟩
    · split at hc
      · rename_i r hmo
        injection hc with hc; subst hc
        exact more_sound hi hmo hρ hrel hev
      have hq : ao.quiet = true := by
        unfold compPure at hc
        split at hc <;> (try split at hc) <;> (try split at hc) <;> (try split at hc) <;> (try split at hc) <;> (try split at hc) <;> (try split at hc) <;> (try split at hc) <;> (first | (cases hc; done) | (cases hc; rfl))
      simp only [evalAO, hq, if_true] at hev
      split at hev
      · rename_i v' hv'
        simp only [Option.some.injEq, Prod.mk.injEq] at hev; obtain ⟨rfl, rfl⟩ := hev
        obtain ⟨u, k1, k2⟩ := pure_sound hi hc vals v' ρ oper rfl hrel hv'
        rw [k2 w (Below.refl _ _)]
        exact ⟨C, .refl C, hi, k1, Keep.refl _ _⟩
      · cases hev

end
end Go.Proofs.YtmjdgpiofhildaaGreatDoor

namespace Go.Proofs.YtmjdgpiofhildaaGreatDoor
open Go.RowKit

/-- The fence that lets everything in, in a round of a loop or in none. -/
def fR (ro : Option Nat) : Fence := { Fence.wide with round := ro }

theorem callsIn_fR {P : Program} {ro : Option Nat} {n : Nat} {f : FuncId} {args : Array Value} {w : World} {R : Ending → World → Prop} (h : Calls P f args w R) : CallsIn (fR ro) n P f args w R :=
  (callsIn_wide (n := n)).2 h
theorem roundIn_fR {P : Program} {ro : Option Nat} {l : Nat} {f : FuncId} {tmps : Array Value} {assign body : Code} {w : World} {R : Ending → World → Prop} (h : RoundIn Fence.wide 0 P l f tmps assign body w R) : RoundIn (fR ro) 0 P l f tmps assign body w R := h
theorem fR_depth {ro : Option Nat} {p : Prop} : (fR ro).depth.isSome = true → p := fun h => by simp [fR, Fence.wide] at h

def botMI : MI := ⟨none, none, false, .bot, []⟩

/-- An operation that is not resolved, under a guard: it may stand where the guard says that it is not wanted. -/
def compOpB (P : Program) (own k : Bool) (o : Oper) : Option (AO × List Operand) :=
  match (if k then compK P o.op else none) with
  | some r => some r
  | none => match compOp P own o with
    | some r => some r
    | none => if o.guard.isSome then some (.bot, []) else none

/-- A call of a function that turns what it is handed: ow names it (1000000 and its number). -/
def genCall (ow : List Nat) : AO → AO
  | .call f => if ow.contains (1000000 + f) then .callg f else .call f
  | o => o
theorem evalAO_genCall {G : Gam} {h : Heap} {ow : List Nat} {o : AO} {vs : List AV} : evalAO G h (genCall ow o) vs = evalAO G h o vs := by
  cases o <;> first | rfl | skip
  simp only [genCall]
  split <;> rfl
/-- What is done ahead of operations in a function that grows slices within a slice of its own: its ow holds 4000000; 4000001 and the size of their elements (the array for them lies at place 0); 5000000 and a temporary: what is written out into it keeps nil slices. -/
def genPre (ow : List Nat) : AO → AO
  | .call f => .pre [.settle] (.call f)
  | .app str n b => .pre [.settle, .slot 0] (.app str n b)
  | .st n => .pre [.nest] (.st n)
  | .newnil n => match ow.find? fun x => decide (4000000 < x ∧ x < 5000000) with
    | some m => .pre [.spare (m - 4000001)] (.newnil n)
    | none => .newnil n
  | o => o
def genAO (ow : List Nat) (o : AO) : AO := match o with
  | .pre _ _ => .bot
  | o => if ow.contains 4000000 then genPre ow o else genCall ow o
theorem genPre_of {ow : List Nat} (o : AO) : genPre ow o = o ∨ ∃ ks, genPre ow o = .pre ks o := by
  cases o <;> first | exact .inl rfl | exact .inr ⟨_, rfl⟩ | skip
  simp only [genPre]
  split
  · exact .inr ⟨_, rfl⟩
  · exact .inl rfl
theorem evalAll_eq {G : Gam} {h : Heap} {o : AO} {vs : List AV} (ho : ∀ ks q, o ≠ .pre ks q) : evalAll G h o vs = evalAO G h o vs := by
  cases o <;> first | rfl | exact absurd rfl (ho _ _)
theorem evalAO_pre {G : Gam} {h : Heap} {ks : List PK} {o : AO} {vs : List AV} : evalAO G h (.pre ks o) vs = none := by
  simp [evalAO, AO.quiet, evalEff]
theorem evalAO_gen {G : Gam} {h : Heap} {ow : List Nat} {o : AO} {vs : List AV} {r : AV × Heap} (hm : evalAO G h (genAO ow o) vs = some r) : evalAO G h o vs = some r := by
  have key : evalAO G h (if ow.contains 4000000 then genPre ow o else genCall ow o) vs = some r → evalAO G h o vs = some r := fun hm => by
    split at hm
    · rcases genPre_of (ow := ow) o with e | ⟨ks, e⟩
      · rw [e] at hm; exact hm
      · rw [e, evalAO_pre] at hm; cases hm
    · rw [evalAO_genCall] at hm; exact hm
  cases o <;> first | exact key hm | (simp [genAO, evalAO, AO.quiet, evalPure] at hm)
theorem evalAll_gen {G : Gam} {h : Heap} {ow : List Nat} {o : AO} {vs : List AV} {r : AV × Heap} (hm : evalAll G h (genAO ow o) vs = some r) : ∃ ks h1 vs1, preAVs ks h vs = some (h1, vs1) ∧ evalAO G h1 o vs1 = some r := by
  have key : (∀ ks q, o ≠ .pre ks q) → evalAll G h (if ow.contains 4000000 then genPre ow o else genCall ow o) vs = some r → ∃ ks h1 vs1, preAVs ks h vs = some (h1, vs1) ∧ evalAO G h1 o vs1 = some r := fun ho hm => by
    split at hm
    · rcases genPre_of (ow := ow) o with e | ⟨ks, e⟩
      · rw [e, evalAll_eq ho] at hm; exact ⟨[], h, vs, rfl, hm⟩
      · rw [e] at hm
        simp only [evalAll] at hm
        split at hm
        · rename_i h1 vs1 hp; exact ⟨ks, h1, vs1, hp, hm⟩
        · cases hm
    · refine ⟨[], h, vs, rfl, ?_⟩
      rw [← evalAO_genCall (ow := ow), ← evalAll_eq (o := genCall ow o)]
      · exact hm
      · intro ks q e
        cases o <;> first | (simp only [genCall] at e; cases e; done) | (simp only [genCall] at e; split at e <;> cases e; done) | exact ho _ _ rfl
  cases o <;> first | exact key (fun _ _ e => by cases e) hm | (simp [genAO, evalAll, evalAO, AO.quiet, evalPure] at hm)

/-- An operation of a region, resolved: ks: the temporaries that are kept; n: how many there are; ow: those that hold slices which are written to. -/
def compMI (P : Program) (gv : Gv) (ks : List Nat) (n : Nat) (ow : List Nat) (ops : Array Oper) (o : Oper) : MI :=
  match compOpB P ((o.dst.map fun t => ow.contains t).getD false) ((o.dst.map fun t => ow.contains (5000000 + t)).getD false) o with
  | some (ao, xs) => match compAts gv xs with
    | some ats =>
      if (o.dst.map fun t => decide (t < n)).getD true then
        match o.guard with
        | none => ⟨none, o.dst, (o.dst.map fun t => ks.contains t).getD false, genAO ow ao, ats⟩
        | some (j, b) => match (ops[j]?).bind (·.dst) with
          | some t => ⟨some (t, b), o.dst, (o.dst.map fun t => ks.contains t).getD false, genAO ow ao, ats⟩
          | none => botMI
      else botMI
    | none => botMI
  | none => botMI

def compReg (P : Program) (gv : Gv) (ks : List Nat) (n : Nat) (ow : List Nat) (ops : Array Oper) : List MI := ops.toList.map (compMI P gv ks n ow ops)

/-- What the temporaries hold. -/
def RelT (C : Cx) (e : Nat → Option AV) (a : Act) : Prop := ∀ t x, e t = some x → ∃ u, a.tmps[t]? = some u ∧ Rel C x u

section
variable {P : Program} {B : Base} {C D : Cx} {h : Heap} {w w' : World} {G : Gam} {a : Act}

theorem RelT.mono {e : Nat → Option AV} (h : RelT C e a) (hl : C.Le D) : RelT D e a := fun t x hx => let ⟨u, h1, h2⟩ := h t x hx; ⟨u, h1, h2.mono hl⟩

theorem eval_at_rel (hi : Inv B C h w) {e : Nat → Option AV} (hr : RelT C e a) {x : Operand} {at_ : At} {v : AV} (hc : compAt B.gv x = some at_) (hv : getA e at_ = some v) : Rel C v (a.eval x) := by
  cases x with
  | tmp t =>
    simp only [compAt, Option.some.injEq] at hc; subst hc
    obtain ⟨u, h1, h2⟩ := hr t v hv
    have : a.eval (.tmp t) = u := by simp [Act.eval, h1]
    rw [this]; exact h2
  | const k =>
    simp only [compAt, Option.map_eq_some_iff] at hc
    obtain ⟨c, h1, rfl⟩ := hc
    simp only [getA, Option.some.injEq] at hv; subst hv
    exact ofValue_rel h1
  | global g =>
    simp only [compAt, Option.map_eq_some_iff] at hc
    obtain ⟨r, hg, rfl⟩ := hc
    simp only [getA, Option.some.injEq] at hv; subst hv
    exact (hi.gl g r hg).mono C.frozen_le
  | func f =>
    simp only [compAt, Option.some.injEq] at hc; subst hc
    simp only [getA, Option.some.injEq] at hv; subst hv
    exact .fn f [] #[] rfl (fun i c v hc => by simp at hc)

theorem eval_ats_rel (hi : Inv B C h w) {e : Nat → Option AV} (hr : RelT C e a) : ∀ {xs : List Operand} {ats : List At} {vs : List AV}, compAts B.gv xs = some ats → getAs e ats = some vs → RelL C vs (xs.map a.eval)
  | [], ats, vs, hc, hv => by simp [compAts] at hc; subst hc; simp [getAs] at hv; subst hv; exact .nil
  | x :: xs, ats, vs, hc, hv => by
    simp only [compAts] at hc
    split at hc
    · rename_i at_ ats' h1 h2
      injection hc with hc; subst hc
      simp only [getAs] at hv
      split at hv
      · rename_i v vs' h3 h4
        injection hv with hv; subst hv
        exact .cons (eval_at_rel hi hr h1 h3) (eval_ats_rel hi hr h2 h4)
      · cases hv
    · cases hc

theorem evalStill_all {o : AO} {vs : List AV} {v : AV} (he : evalStill G h o vs = some v) : evalAO G h o vs = some (v, h) := by
  unfold evalStill at he
  split at he
  · rename_i hq
    simp only [evalAO, hq, if_true, he]
  · rename_i hq
    have hq' : o.quiet = false := by simpa using hq
    simp only [evalAO, hq', Bool.false_eq_true, if_false]
    split at he
    · rename_i f
      split at he
      · rename_i F hf
        split at he
        · rename_i us hus
          split at he
          · rename_i r hr
            simp only [evalEff, callAV, hf, hus, hr]
            split at he
            · rename_i hs; injection he with he; subst he; simp [hs]
            · rename_i hs
              split at he
              · rename_i ho; injection he with he; subst he; simp [hs, ho, freezeAll]
              · cases he
          · cases he
        · cases he
      · cases he
    · rename_i size
      split at he
      · rename_i ho
        split at he
        · rename_i us hus
          split at he
          · rename_i hc
            injection he with he; subst he
            simp only [evalEff, frzL, hus, Option.map_some, ho, freezeAll]
            rw [if_pos hc]; rfl
          · cases he
        · cases he
      · cases he
    · cases vs with
      | nil => cases he
      | cons x bs =>
        simp only at he
        simp only [evalEff]
        split at he
        · rename_i l r m hargs
          simp only [slcOwn, he]
        · cases he
    · cases he

/-- What a step yields, it yields of what its temporaries hold. -/
theorem bot_none (s : Bool) (e : Nat → Option AV) : stepV G s botMI e h = none := by
  cases s <;> simp [stepV, botMI, getAs, AO.loud, AO.quiet, evalAll, evalAO, evalPure, evalStill]

theorem put_size' (a : Act) (d : Option Nat) (u : Value) : (a.put d u).tmps.size = a.tmps.size := by
  cases d <;> simp [Act.put]
theorem put_defers' (a : Act) (d : Option Nat) (u : Value) : (a.put d u).defers = a.defers := by
  cases d <;> rfl

theorem op_soundB (hG : GamB P B G) (hi : Inv B C h w) {own k : Bool} {oper : Oper} {ao : AO} {xs : List Operand} (hc : compOpB P own k oper = some (ao, xs)) {vals : List AV} {v : AV} {h' : Heap} {ρ : Operand → Value}
    (hρ : ∀ u, ρ (.const u) = u) (hρf : ∀ f, ρ (.func f) = .func (.func f) #[] #[]) (hrel : RelL C vals (xs.map ρ)) (hev : evalAO G h ao vals = some (v, h')) :
    Comes1 P (fun u w' => ∃ D, C.Le D ∧ Inv B D h' w' ∧ Rel D v u ∧ Keep B w w') ((execOp ρ oper).run P w) := by
  unfold compOpB at hc
  split at hc
  · rename_i r hr
    injection hc with hc; subst hc
    split at hr
    · obtain ⟨n, u, D, w', e1, e2, e3, e4, e5, e6⟩ := K_sound hi hr rfl hrel hev
      rw [e1]
      rcases e2 with rfl | ⟨rfl, rfl⟩
      · exact ⟨D, e3, e4, e5, e6⟩
      · exact ⟨D, e3, e4, e5, e6⟩
    · cases hr
  split at hc
  · rename_i r hr
    injection hc with hc; subst hc
    exact op_sound hG hi hr hρ hρf hrel hev
  · split at hc
    · simp only [Option.some.injEq, Prod.mk.injEq] at hc
      obtain ⟨rfl, rfl⟩ := hc
      simp [evalAO, AO.quiet, evalPure] at hev
    · cases hc

theorem compOp_defer {own : Bool} {o : Oper} {c : Call} (h : o.op = .defer c) : compOp P own o = none := by
  simp [compOp, compCall, compSlcf, compB, compEff, compMore, compPure, h]

/-- An operation comes up. -/
theorem step_sound {ro : Option Nat} (hG : GamB P B G) (hi : Inv B C h w) {e : Nat → Option AV} (hr : RelT C e a) {ks ow : List Nat} {n : Nat} {ops : Array Oper} {k : Nat} {o : Oper} (ho : ops[k]? = some o) {s : Bool} {v : AV} {h' : Heap}
    (hs : stepV G s (compMI P B.gv ks n ow ops o) e h = some (v, h')) {Q : Exit → Act → World → Prop} {K : Act → World → Prop}
    (hK : ∀ u D w', C.Le D → Inv B D h' w' → Rel D v u → Keep B w w' → K (a.put o.dst u) w') : wpOpIn (fR ro) 0 P ops Q k K a w := by
  unfold wpOpIn
  simp only [ho]
  have notbot : compMI P B.gv ks n ow ops o ≠ botMI := fun e1 => by rw [e1, bot_none] at hs; cases hs
  unfold compMI at hs notbot
  split at hs
  · rename_i ao xs hco
    split at hs
    · rename_i ats hats
      split at hs
      · rename_i hd
        -- the operation itself, wanted
        have go : (match getAs e ats with
            | some vs => if s && !(genAO ow ao).loud then (evalStill G h (genAO ow ao) vs).map fun v => (v, h) else evalAll G h (genAO ow ao) vs
            | none => none) = some (v, h') → o.wpIn (fR ro) 0 P a w K Q := by
          intro hm
          split at hm
          · rename_i vs hvs
            have hev0 : ∃ ks h1 vs1, preAVs ks h vs = some (h1, vs1) ∧ evalAO G h1 ao vs1 = some (v, h') := by
              split at hm
              · simp only [Option.map_eq_some_iff, Prod.mk.injEq] at hm
                obtain ⟨v', h1, rfl, rfl⟩ := hm
                exact ⟨[], _, vs, rfl, evalAO_gen (evalStill_all h1)⟩
              · exact evalAll_gen hm
            obtain ⟨pks, h1, vs1, hpre, hev⟩ := hev0
            obtain ⟨C', hCC, hi', hr'⟩ := pres_sound hi (eval_ats_rel hi hr hats hvs) hpre
            have hK : ∀ u D w', C'.Le D → Inv B D h' w' → Rel D v u → Keep B w w' → K (a.put o.dst u) w' := fun u D w' q => hK u D w' (hCC.trans q)
            have hc := op_soundB hG hi' hco (ρ := a.eval) (fun _ => rfl) (fun _ => rfl) hr' hev
            unfold Oper.wpIn
            refine ⟨fun _ _ => trivial, ?_⟩
            have hsem : Oper.semAt (fR ro).round a.eval o = execOp a.eval o := Oper.semAt_eq _ _ _ fun c hcd => by
              unfold compOpB at hco
              have hk : (if (o.dst.map fun t => ow.contains (5000000 + t)).getD false then compK P o.op else none) = none := by simp [compK, hcd]
              rw [compOp_defer hcd, hk] at hco
              simp only at hco
              split at hco
              · simp only [Option.some.injEq, Prod.mk.injEq] at hco
                obtain ⟨rfl, rfl⟩ := hco
                simp [evalAO, AO.quiet, evalPure] at hev
              · cases hco
            rw [hsem]
            generalize (execOp a.eval o).run P w = res at hc
            cases res with
            | halt x w' => exact hc.elim
            | ok nx w' =>
              cases nx with
              | value u => obtain ⟨D, k1, k2, k3, k4⟩ := hc; exact hK u D w' k1 k2 k3 k4
              | skip => obtain ⟨D, k1, k2, k3, k4⟩ := hc; exact hK _ D w' k1 k2 k3 k4
              | enter f args =>
                refine ⟨fR_depth, callsIn_fR (Calls.mono hc fun e w'' hk => ?_)⟩
                obtain ⟨u, rfl, D, k1, k2, k3, k4⟩ := hk
                exact hK u D w'' k1 k2 k3 k4
              | round l f tmps assign body =>
                refine ⟨fR_depth, roundIn_fR (RoundIn.mono hc fun e w'' hk => ?_)⟩
                obtain ⟨u, rfl, D, k1, k2, k3, k4⟩ := hk
                exact hK u D w'' k1 k2 k3 k4
              | _ => exact hc.elim
          · cases hm
        have undef_rel : Rel C skipped undef := .tup [] #[] rfl (fun i c v hc => by simp at hc)
        split at hs
        · rename_i hg
          have hw : Region.wanted o (yielded ops a.tmps) = true := by simp [Region.wanted, hg]
          rw [if_pos hw]
          exact go hs
        · rename_i j b hg
          split at hs
          · rename_i t ht
            simp only [stepV] at hs
            split at hs
            · rename_i b' hb'
              obtain ⟨u, hu1, hu2⟩ := hr t _ hb'
              have := bool_inv hu2; subst this
              have hy : yielded ops a.tmps j = some b' := by simp [yielded, ht, hu1]
              split at hs
              · rename_i hbb
                rw [if_pos (by simp [Region.wanted, hg, hy, hbb])]
                exact go hs
              · rename_i hbb
                rw [if_neg (by simp [Region.wanted, hg, hy, hbb])]
                simp only [Option.some.injEq, Prod.mk.injEq] at hs; obtain ⟨rfl, rfl⟩ := hs
                exact ⟨fun _ _ => trivial, hK undef C w (.refl C) hi undef_rel (Keep.refl _ _)⟩
            · rename_i hb'
              obtain ⟨u, hu1, hu2⟩ := hr t _ hb'
              have hy : yielded ops a.tmps j = none := by
                cases hu2
                simp [yielded, ht, hu1]
              rw [if_neg (by simp [Region.wanted, hg, hy])]
              simp only [Option.some.injEq, Prod.mk.injEq] at hs; obtain ⟨rfl, rfl⟩ := hs
              exact ⟨fun _ _ => trivial, hK undef C w (.refl C) hi undef_rel (Keep.refl _ _)⟩
            · cases hs
          · rw [bot_none] at hs; cases hs
      · rw [bot_none] at hs; cases hs
    · rw [bot_none] at hs; cases hs
  · rw [bot_none] at hs; cases hs

/-- The resolved operation's temporary is the operation's. -/
theorem compMI_dst {ks ow : List Nat} {n : Nat} {ops : Array Oper} {o : Oper} (hne : compMI P B.gv ks n ow ops o ≠ botMI) :
    (compMI P B.gv ks n ow ops o).dst = o.dst ∧ (compMI P B.gv ks n ow ops o).kept = (o.dst.map fun t => ks.contains t).getD false ∧ (∀ t, o.dst = some t → t < n) := by
  unfold compMI at hne ⊢
  split at hne
  · split at hne
    · split at hne
      · rename_i hd
        have hd' : ∀ t, o.dst = some t → t < n := fun t ht => by simpa [ht] using hd
        rw [if_pos hd]
        split at hne
        · exact ⟨rfl, rfl, hd'⟩
        · split at hne
          · exact ⟨rfl, rfl, hd'⟩
          · exact absurd rfl hne
      · exact absurd rfl hne
    · exact absurd rfl hne
  · exact absurd rfl hne

/-- Temporaries of the region are none that is kept. -/
def Sep (ks : List Nat) (env : List (Nat × AV)) : Prop := ∀ t v, lkp t env = some v → ks.contains t = false

/-- What is kept is among the temporaries that are kept. -/
def Keys (ks : List Nat) (fr : List (Nat × AV)) : Prop := ∀ t v, lkp t fr = some v → ks.contains t = true

theorem lkp_upd (t : Nat) (v : AV) : ∀ (l : List (Nat × AV)) (k : Nat), lkp k (upd t v l) = if k = t then (lkp k l).map (fun _ => v) else lkp k l
  | [], k => by simp [upd, lkp]
  | (k', x) :: r, k => by
    simp only [upd]
    by_cases h1 : t = k'
    · subst h1
      simp only [if_true, lkp]
      by_cases h2 : k = t
      · simp [h2]
      · simp [h2]
    · simp only [if_neg h1, lkp, lkp_upd t v r k]
      by_cases h2 : k = k'
      · subst h2
        simp only [if_true]
        rw [if_neg (fun e => h1 e.symm)]
      · simp only [if_neg h2]

/-- What is known behind an operation. -/
theorem bind_get {ks : List Nat} {env fr env' fr' : List (Nat × AV)} {dst : Option Nat} {kept : Bool} {v : AV} {h h' : Heap} (hsep : Sep ks env) (hk : kept = (dst.map fun t => ks.contains t).getD false)
    (hb : bindR dst kept env fr (some (v, h)) = .ok env' fr' h') : h' = h ∧ Sep ks env' ∧ (Keys ks fr → Keys ks fr') ∧ ∀ t x, getT env' fr' t = some x → (dst = some t ∧ x = v) ∨ (dst ≠ some t ∧ getT env fr t = some x) := by
  unfold bindR at hb
  cases dst with
  | none =>
    simp only [R.ok.injEq] at hb; obtain ⟨rfl, rfl, rfl⟩ := hb
    exact ⟨rfl, hsep, id, fun t x hx => .inr ⟨by simp, hx⟩⟩
  | some d =>
    simp only [Option.map_some, Option.getD_some] at hk
    simp only at hb
    split at hb
    · rename_i hkt
      simp only [R.ok.injEq] at hb; obtain ⟨rfl, rfl, rfl⟩ := hb
      refine ⟨rfl, hsep, fun hks t x hx => ?_, fun t x hx => ?_⟩
      · rw [lkp_upd] at hx
        split at hx
        · rename_i e; subst e
          simp only [Option.map_eq_some_iff] at hx
          obtain ⟨y, hy, _⟩ := hx
          exact hks t y hy
        · exact hks t x hx
      by_cases htd : t = d
      · subst htd
        left
        have hn : lkp t env = none := by
          cases hl : lkp t env with
          | none => rfl
          | some y => have := hsep t y hl; rw [← hk, hkt] at this; cases this
        simp only [getT, hn, lkp_upd, if_true, Option.map_eq_some_iff] at hx
        obtain ⟨_, _, rfl⟩ := hx
        exact ⟨rfl, rfl⟩
      · right
        refine ⟨fun e => htd (by injection e with e; exact e.symm), ?_⟩
        simpa only [getT, lkp_upd, if_neg htd] using hx
    · rename_i hkt
      simp only [R.ok.injEq] at hb; obtain ⟨rfl, rfl, rfl⟩ := hb
      refine ⟨rfl, fun t x hx => ?_, id, fun t x hx => ?_⟩
      · simp only [lkp] at hx
        split at hx
        · rename_i e; subst e; rw [← hk]; simpa using hkt
        · exact hsep t x hx
      · by_cases htd : t = d
        · subst htd
          left; simp only [getT, lkp, if_true, Option.some.injEq] at hx; exact ⟨rfl, hx.symm⟩
        · right
          refine ⟨fun e => htd (by injection e with e; exact e.symm), ?_⟩
          simpa only [getT, lkp, if_neg htd] using hx

theorem RelT.put {e e' : Nat → Option AV} (hr : RelT C e a) {dst : Option Nat} {v : AV} {u : Value} (hu : Rel C v u) (hd : ∀ t, dst = some t → t < a.tmps.size) (he : ∀ t x, e' t = some x → (dst = some t ∧ x = v) ∨ (dst ≠ some t ∧ e t = some x)) : RelT C e' (a.put dst u) := by
  intro t x hx
  rcases he t x hx with ⟨h1, rfl⟩ | ⟨h1, h2⟩
  · subst h1
    exact ⟨u, by simp [Act.put, hd t rfl], hu⟩
  · obtain ⟨y, h3, h4⟩ := hr t x h2
    refine ⟨y, ?_, h4⟩
    cases dst with
    | none => exact h3
    | some d =>
      simp only [Act.put]
      rw [Array.getElem?_setIfInBounds_ne (fun e => h1 (by rw [e]))]
      exact h3

/-- The state of a frame between operations. -/
structure StOK (ks : List Nat) (n : Nat) (B : Base) (C : Cx) (env fr : List (Nat × AV)) (h : Heap) (a : Act) (w : World) : Prop where
  inv : Inv B C h w
  rel : RelT C (getT env fr) a
  sep : Sep ks env
  keys : Keys ks fr
  size : n ≤ a.tmps.size

theorem run_bad (G : Gam) (s : Bool) : ∀ is : List MI, run G s is .bad = .bad
  | [] => rfl
  | i :: is => by simp only [run, evalI]; exact run_bad G s is

/-- Regions in the order of the text. -/
theorem list_sound {ro : Option Nat} (hG : GamB P B G) {ks ow : List Nat} {n : Nat} {ops : Array Oper} {s : Bool} {Q : Exit → Act → World → Prop} {d : List Deferred} {w0 : World} {C0 : Cx} {env' fr' : List (Nat × AV)} {h' : Heap} :
    ∀ (l : List Nat) (os : List Oper) (env fr : List (Nat × AV)) (h : Heap) (C : Cx) (a : Act) (w : World), l.map (fun i => ops[i]?) = os.map some → StOK ks n B C env fr h a w → a.defers = d → C0.Le C → Keep B w0 w →
      run G s (os.map (compMI P B.gv ks n ow ops)) (.ok env fr h) = .ok env' fr' h' →
      (∀ D a' w', C0.Le D → StOK ks n B D env' fr' h' a' w' → a'.defers = d → Keep B w0 w' → Q .normal a' w') → wpOpsIn (fR ro) 0 P ops Q l a w
  | [], os, env, fr, h, C, a, w, hl, hst, hd, hle, hbw, hrun, hQ => by
    cases os with
    | nil =>
      simp only [List.map_nil, run, R.ok.injEq] at hrun; obtain ⟨rfl, rfl, rfl⟩ := hrun
      exact hQ C a w hle hst hd hbw
    | cons _ _ => simp at hl
  | i :: l, os, env, fr, h, C, a, w, hl, hst, hd, hle, hbw, hrun, hQ => by
    cases os with
    | nil => simp at hl
    | cons o os =>
      simp only [List.map_cons, List.cons.injEq] at hl
      obtain ⟨ho, hl⟩ := hl
      rw [wpOpsIn_cons]
      simp only [List.map_cons, run, evalI] at hrun
      cases hs : stepV G s (compMI P B.gv ks n ow ops o) (getT env fr) h with
      | none => rw [hs] at hrun; simp only [bindR, run_bad] at hrun; cases hrun
      | some vh =>
        obtain ⟨v, h1⟩ := vh
        rw [hs] at hrun
        have hne : compMI P B.gv ks n ow ops o ≠ botMI := fun e1 => by rw [e1, bot_none] at hs; cases hs
        obtain ⟨c1, c2, c3⟩ := compMI_dst hne
        rw [c1, c2] at hrun
        generalize hb : bindR o.dst ((o.dst.map fun t => ks.contains t).getD false) env fr (some (v, h1)) = r1 at hrun
        cases r1 with
        | bad => rw [run_bad] at hrun; cases hrun
        | ok env1 fr1 h2 =>
          obtain ⟨rfl, hsep, hkeys, hget⟩ := bind_get hst.sep rfl hb
          refine step_sound hG hst.inv hst.rel ho hs (fun u D w' k1 k2 k3 k4 => ?_)
          exact list_sound hG l os env1 fr1 h2 D (a.put o.dst u) w' hl
            ⟨k2, (hst.rel.mono k1).put k3 (fun t ht => Nat.lt_of_lt_of_le (c3 t ht) hst.size) hget, hsep, hkeys hst.keys, by rw [put_size']; exact hst.size⟩ (by rw [put_defers']; exact hd) (hle.trans k1) (hbw.trans k4) hrun hQ

theorem range_get (ops : Array Oper) : (List.range ops.size).map (fun i => ops[i]?) = ops.toList.map some := by
  apply List.ext_getElem?
  intro i
  by_cases hi : i < ops.size
  · simp [hi]
  · rw [List.getElem?_eq_none (by simp; omega), List.getElem?_eq_none (by simp; omega)]

theorem region_sound {ro : Option Nat} (hG : GamB P B G) {ks ow : List Nat} {n id : Nat} {ops : Array Oper} {Q : Exit → Act → World → Prop} {env fr env' fr' : List (Nat × AV)} {h' : Heap} (hst : StOK ks n B C env fr h a w)
    (hrun : run G false (compReg P B.gv ks n ow ops) (.ok env fr h) = .ok env' fr' h')
    (hQ : ∀ D a' w', C.Le D → StOK ks n B D env' fr' h' a' w' → a'.defers = a.defers → Keep B w w' → Q .normal a' w') : (Code.region id ops false).wpIn (fR ro) 0 P Q a w :=
  wpIn_region (list_sound hG (List.range ops.size) ops.toList env fr h C a w (range_get ops) hst rfl (.refl C) (Keep.refl _ _) hrun hQ)

end
end Go.Proofs.YtmjdgpiofhildaaGreatDoor
