/- Operations that only look, all of them: in every world that has grown, the model does what the small language says. -/
import Derived.Test.YtmjdgpiofhildaaDoorAbs4
namespace Go.Proofs.YtmjdgpiofhildaaDoor
open Go.RowKit
section
variable {P : Program} {B : Base} {C : Cx} {h : Heap} {w : World}

theorem relL1 {a : AV} {xs : List Value} (h : RelL C [a] xs) : ∃ x, xs = [x] ∧ Rel C a x := by
  obtain ⟨x, us, rfl, h1, h2⟩ := h.inv_cons
  have := h2.inv_nil; subst this
  exact ⟨x, rfl, h1⟩
theorem relL2 {a b : AV} {xs : List Value} (h : RelL C [a, b] xs) : ∃ x y, xs = [x, y] ∧ Rel C a x ∧ Rel C b y := by
  obtain ⟨x, us, rfl, h1, h2⟩ := h.inv_cons
  obtain ⟨y, rfl, h3⟩ := relL1 h2
  exact ⟨x, y, rfl, h1, h3⟩

theorem indexAddr_sound {t e : TypeId} {size : Nat} (hi : Inv B C h w) (ht : P.underlying t = some (.slice e)) (hs : tsize P e = some size) {a i v : AV} {x y : Value} (hx : Rel C a x) (hy : Rel C i y)
    (hev : iadrAV size h a i = some v) : ∃ u, Rel C v u ∧ ∀ w, (Instr.indexAt t x y).run P w = .ok u w := by
  have core : ∀ (b o len cap : Nat) (k : IntKind) (n : Int), 0 ≤ n → n < len →
      ∀ w, (Instr.indexAt t (.slice (some ⟨b, o, none⟩) len cap) (.int k n)).run P w = .ok (.pointer (some ⟨b, o + n.toNat * size, none⟩)) w := by
    intro b o len cap k n h0 h1 w
    simp [Instr.indexAt, asIntOf, run_underlying ht, h0, h1, run_sizeOf' hs, Addr.add_lit]
  have frozen : ∀ (rows : List (List AV)) (k : IntKind) (n : Int) (b o len cap size' : Nat) (us : Nat → Nat → Value), len = rows.length →
      (∀ (i : Nat) row, rows[i]? = some row → row.length = size') → (∀ (i : Nat) row (j : Nat) c, rows[i]? = some row → row[j]? = some c → C.im b (o + i * size' + j) = some (us i j)) →
      (∀ (i : Nat) row (j : Nat) c, rows[i]? = some row → row[j]? = some c → Rel (Cx.pure C.im) c (us i j)) →
      (if 0 ≤ n then (match rows[n.toNat]? with
        | some row => if row.length = size then some (AV.fptr row 0) else none
        | none => none) else none) = some v →
      ∃ u, Rel C v u ∧ ∀ w, (Instr.indexAt t (.slice (some ⟨b, o, none⟩) len cap) (.int k n)).run P w = .ok u w := by
    intro rows k n b o len cap size' us hlen h1 h2 h3 hv
    split at hv
    · rename_i h0
      split at hv
      · rename_i row hrow
        split at hv
        · rename_i hl
          injection hv with hv; subst hv
          have hlt : n.toNat < rows.length := (List.getElem?_eq_some_iff.1 hrow).1
          have hsz := h1 _ _ hrow
          rw [hl] at hsz; subst hsz
          exact ⟨_, .fptr row 0 b (o + n.toNat * size) (us n.toNat) (fun j c hc => h2 _ _ _ _ hrow hc) (fun j c hc => h3 _ _ _ _ hrow hc), fun w => by
            rw [Nat.add_zero]; exact core b o len cap k n h0 (by omega) w⟩
        · cases hv
      · cases hv
    · cases hv
  cases a with
  | sl rows =>
    cases i with
    | int k n =>
      have := int_inv hy; subst this
      cases hx with
      | slnil => simp [iadrAV] at hev
      | slz a cap => simp [iadrAV] at hev
      | sl _ b o cap size' us hcap h1 h2 h3 => exact frozen rows k n b o _ cap size' us rfl h1 h2 h3 hev
    | _ => simp [iadrAV] at hev
  | tsl rows =>
    cases i with
    | int k n =>
      have := int_inv hy; subst this
      cases hx with
      | tslnil => simp [iadrAV] at hev
      | tslz a => simp [iadrAV] at hev
      | tsl _ b o size' us h1 h2 h3 => exact frozen rows k n b o _ _ size' us rfl h1 h2 h3 hev
    | _ => simp [iadrAV] at hev
  | own l ver n =>
    cases i with
    | int k m =>
      have := int_inv hy; subst this
      simp only [iadrAV] at hev
      split at hev
      · rename_i sz ver' rows wr hx'
        split at hev
        · rename_i hc
          obtain ⟨rfl, hn, h0, h1⟩ := hc
          split at hev
          · rename_i row hrow
            split at hev
            · rename_i hl
              injection hev with hev; subst hev
              cases hx with
              | ownnil _ _ hb => omega
              | own _ _ _ r hb hcap =>
                rcases hi.ok l _ hx' with ⟨k1, _⟩ | ⟨r', cur, k1, k2, k3, k4, k5, _⟩
                · rw [hb] at k1; cases k1
                · rw [hb] at k1; injection k1 with k1; injection k1 with k1; subst k1
                  have hsz := k5 row (List.mem_of_getElem? hrow)
                  refine ⟨_, .eptr l ver m.toNat 0 r hb, fun w => ?_⟩
                  rw [core r.block 0 n r.cap k m h0 h1 w, ← hsz, hl, Nat.zero_add, Nat.add_zero]
            · cases hev
          · cases hev
        · cases hev
      · cases hev
    | _ => simp [iadrAV] at hev
  | _ => simp [iadrAV] at hev

theorem size_ba (s : List UInt8) : (ByteArray.mk s.toArray).size = s.length := by show s.toArray.size = _; simp

theorem cells_sl {rows : List (List AV)} {x : Value} (h : Rel C (.sl rows) x) : ∃ a cap, x = .slice a rows.length cap := by
  cases h with
  | slnil => exact ⟨none, 0, rfl⟩
  | slz a cap => exact ⟨some a, cap, rfl⟩
  | sl _ b o cap size us hcap _ _ _ => exact ⟨_, cap, rfl⟩

/-- What a length is asked of. -/
def LenTy (P : Program) (t : TypeId) (k : Nat) : Prop := match k with | 0 => P.underlying t = some .string | 1 => ∃ e, P.underlying t = some (.slice e) | 2 => ∃ q e, P.underlying t = some (.map q e) | _ => False

theorem len_sound (hi : Inv B C h w) {t ty : TypeId} {x : Value} {a v : AV} {k : Nat} (hx : Rel C a x) (hev : lenAV h k a = some v)
    (ht : LenTy P t k) :
    ∃ u, Rel C v u ∧ ∀ w', Below w.heap.size w w' → (Builtin.len_ #[t] ty #[x]).run P w' = .ok u w' := by
  match k, a with
  | 0, .str s =>
    simp only [lenAV] at hev; injection hev with hev; subst hev
    have := str_inv hx; subst this
    exact ⟨_, .int _ _, fun w' _ => by simp [Builtin.len_, run_underlying ht, goInt, size_ba]⟩
  | 1, .sl rows =>
    simp only [lenAV] at hev; injection hev with hev; subst hev
    obtain ⟨e, ht⟩ := ht
    obtain ⟨a, cap, rfl⟩ := cells_sl hx
    exact ⟨_, .int _ _, fun w' _ => by simp [Builtin.len_, run_underlying ht, goInt]⟩
  | 1, .tsl rows =>
    simp only [lenAV] at hev; injection hev with hev; subst hev
    obtain ⟨e, ht⟩ := ht
    cases hx <;> exact ⟨_, .int _ _, fun w' _ => by simp [Builtin.len_, run_underlying ht, goInt]⟩
  | 1, .nils =>
    simp only [lenAV] at hev; injection hev with hev; subst hev
    obtain ⟨e, ht⟩ := ht
    cases hx
    exact ⟨_, .int _ _, fun w' _ => by simp [Builtin.len_, run_underlying ht, goInt]⟩
  | 1, .own l ver n =>
    simp only [lenAV] at hev; injection hev with hev; subst hev
    obtain ⟨e, ht⟩ := ht
    cases hx <;> exact ⟨_, .int _ _, fun w' _ => by simp [Builtin.len_, run_underlying ht, goInt]⟩
  | 2, .map l =>
    simp only [lenAV] at hev
    split at hev
    · rename_i es hx'
      injection hev with hev; subst hev
      obtain ⟨q, e, ht⟩ := ht
      cases hx with
      | map _ b hb =>
        obtain ⟨b', ms, ck, h1, h2, h3, h4, _⟩ := hi.ok l _ hx'
        rw [hb] at h1; injection h1 with h1; subst h1
        refine ⟨_, .int _ _, fun w' hw' => ?_⟩
        have h3' := (hw'.block b (heap_lt h3)).trans h3
        simp [Builtin.len_, run_underlying ht, goInt, getObj, Sem.run, h3', h4]
    · cases hev
  | 2, .nilm =>
    simp only [lenAV] at hev; injection hev with hev; subst hev
    obtain ⟨q, e, ht⟩ := ht
    cases hx
    exact ⟨_, .int _ _, fun w' _ => by simp [Builtin.len_, run_underlying ht, goInt]⟩

/-! ### Maps -/
theorem keyEq_now {e : EK} {d : TypeDesc} {k k' : AV} {x y : Value} {b : Bool} (hd : match e with | .s => d = .string | .i => ∃ q, d = .int q | .b => d = .bool) (hx : Rel C k x) (hy : Rel C k' y) (h : keyEq e k k' = some b) :
    Instr.sameNow d x y = some b := by
  cases e <;> cases k <;> cases k' <;> simp only [keyEq] at h <;> (first | cases h | skip)
  · rw [bool_inv hx, bool_inv hy, hd]; simp only [Instr.sameNow]
  · obtain ⟨q, rfl⟩ := hd
    rw [int_inv hx, int_inv hy]; exact h
  · rw [str_inv hx, str_inv hy, hd]
    simp only [Instr.sameNow]
    rw [beq_toListBytes, toList_ba, toList_ba]

theorem mget_now {e : EK} {d : TypeDesc} (hd : match e with | .s => d = .string | .i => ∃ q, d = .int q | .b => d = .bool) {k : AV} {x : Value} (hx : Rel C k x) :
    ∀ (es : List (AV × AV)) (ms : List MapEntry) (n : Nat) (r : Option AV), es.length = ms.length → (∀ (i : Nat) k v m, es[i]? = some (k, v) → ms[i]? = some m → Rel C k m.key ∧ Rel C v m.val) → mget e k es = some r →
      match r with
      | some v => ∃ i u, Instr.findNow d x ms n = some (some (i, u)) ∧ Rel C v u
      | none => Instr.findNow d x ms n = some none
  | [], [], n, r, _, _, h => by simp [mget] at h; subst h; rfl
  | [], _ :: _, _, _, hl, _, _ => by simp at hl
  | _ :: _, [], _, _, hl, _, _ => by simp at hl
  | (k', v) :: es, m :: ms, n, r, hl, hr, h => by
    obtain ⟨r1, r2⟩ := hr 0 k' v m rfl rfl
    simp only [mget] at h
    have ih := mget_now hd hx es ms (n + 1) r (by simpa using hl) (fun i k v m h1 h2 => hr (i + 1) k v m (by simpa using h1) (by simpa using h2))
    split at h
    · rename_i hk
      injection h with h; subst h
      have := keyEq_now hd hx r1 hk
      exact ⟨n, m.val, by simp [Instr.findNow, this], r2⟩
    · rename_i hk
      have := keyEq_now hd hx r1 hk
      have ih := ih h
      cases r with
      | none => simp only [Instr.findNow, this]; exact ih
      | some v => simp only [Instr.findNow, this]; exact ih
    · cases h

theorem run_checkKey {e : EK} {kt : TypeId} {d : TypeDesc} (hd : match e with | .s => d = .string | .i => ∃ q, d = .int q | .b => d = .bool) (hk : P.underlying kt = some d) (x : Value) (em : Bool) (w : World) : (Instr.checkKey em 10000 kt x).run P w = .ok () w := by
  have h1 : ∀ n, (Instr.checkKey em (n + 1) kt x).run P w = .ok () w := fun n => by
    simp only [Instr.checkKey, Sem.run_bind, run_underlying hk, Result.andThen_ok]
    cases e <;> simp only at hd
    · subst hd; rfl
    · obtain ⟨q, rfl⟩ := hd; rfl
    · subst hd; rfl
  exact h1 9999

theorem run_zeroV {e : TypeId} {z : AV} (hz : tzeroV P e = some z) : ∃ u, Rel C z u ∧ ∀ w, (zeroValue e).run P w = .ok u w := by
  unfold tzeroV at hz
  cases hi : P.info? e with
  | none => simp [hi] at hz
  | some i =>
    cases hzz : i.zero with
    | none => simp [hi, hzz] at hz
    | some u =>
      simp [hi, hzz] at hz
      exact ⟨u, ofValue_rel hz, fun w => by simp [zeroValue, typeInfo, hi, hzz]⟩

theorem look_sound (hi : Inv B C h w) {e : EK} {t kt et : TypeId} {d : TypeDesc} (ht : P.underlying t = some (.map kt et)) (hd : match e with | .s => d = .string | .i => ∃ q, d = .int q | .b => d = .bool) (hk : P.underlying kt = some d)
    {z : AV} (hz : tzeroV P et = some z) {ok : Bool} {m k v : AV} {x y : Value} (hx : Rel C m x) (hy : Rel C k y)
    (hev : evalPure h (.look e ok z) [m, k] = some v) : ∃ u, Rel C v u ∧ ∀ w', Below w.heap.size w w' → (Instr.lookup t x y ok).run P w' = .ok u w' := by
  obtain ⟨zu, hzr, hzw⟩ := run_zeroV (C := C) hz
  simp only [evalPure] at hev
  split at hev
  · cases m <;> simp only at hev <;> (first | cases hev | skip)
    case map l =>
      split at hev
      · rename_i es hx'
        cases hx with
        | map _ b hb =>
          obtain ⟨b', ms, ck, h1, h2, h3, h4, h5⟩ := hi.ok l _ hx'
          rw [hb] at h1; injection h1 with h1; subst h1
          cases hg : mget e k es with
          | none => simp [hg] at hev
          | some r =>
            simp only [hg, Option.map_some, Option.some.injEq] at hev
            have hnow := mget_now hd hy es ms.toList 0 r (by simpa using h4) (fun i k v m h1 h2 => by
              have := h5 i k v m h1 (by simpa using h2)
              exact ⟨this.1.mono C.frozen_le, this.2.mono C.frozen_le⟩) hg
            cases r with
            | none =>
              simp only at hev hnow
              cases ok with
              | true =>
                simp only [if_true] at hev; subst hev
                exact ⟨_, .tup _ #[zu, .bool false] rfl (fun i c u hc hu => by
                  match i with
                  | 0 => simp at hc hu; subst hc hu; exact hzr
                  | 1 => simp at hc hu; subst hc hu; exact .bool _
                  | _ + 2 => simp at hc), fun w' hw' => by
                  have h3' := (hw'.block b (heap_lt h3)).trans h3
                  simp [Instr.lookup, run_underlying ht, getObj, Sem.run, h3', run_checkKey hd hk, Instr.findKey, run_underlying hk, hnow, hzw]⟩
              | false =>
                simp only [Bool.false_eq_true, if_false] at hev; subst hev
                exact ⟨zu, hzr, fun w' hw' => by
                  have h3' := (hw'.block b (heap_lt h3)).trans h3
                  simp [Instr.lookup, run_underlying ht, getObj, Sem.run, h3', run_checkKey hd hk, Instr.findKey, run_underlying hk, hnow, hzw]⟩
            | some v' =>
              simp only at hev hnow
              obtain ⟨i, u, hn, hr⟩ := hnow
              cases ok with
              | true =>
                simp only [if_true] at hev; subst hev
                exact ⟨_, .tup _ #[u, .bool true] rfl (fun i c u hc hu => by
                  match i with
                  | 0 => simp at hc hu; subst hc hu; exact hr
                  | 1 => simp at hc hu; subst hc hu; exact .bool _
                  | _ + 2 => simp at hc), fun w' hw' => by
                  have h3' := (hw'.block b (heap_lt h3)).trans h3
                  simp [Instr.lookup, run_underlying ht, getObj, Sem.run, h3', run_checkKey hd hk, Instr.findKey, run_underlying hk, hn]⟩
              | false =>
                simp only [Bool.false_eq_true, if_false] at hev; subst hev
                exact ⟨u, hr, fun w' hw' => by
                  have h3' := (hw'.block b (heap_lt h3)).trans h3
                  simp [Instr.lookup, run_underlying ht, getObj, Sem.run, h3', run_checkKey hd hk, Instr.findKey, run_underlying hk, hn]⟩
      · cases hev
    case isTrue.nilm.refl =>
      cases hx
      cases ok with
      | true =>
        exact ⟨_, .tup _ #[zu, .bool false] rfl (fun i c u hc hu => by
          match i with
          | 0 => simp at hc hu; subst hc hu; exact hzr
          | 1 => simp at hc hu; subst hc hu; exact .bool _
          | _ + 2 => simp at hc), fun w' _ => by simp [Instr.lookup, run_underlying ht, run_checkKey hd hk, Instr.findKey, run_underlying hk, Instr.findNow, hzw]⟩
      | false =>
        exact ⟨zu, hzr, fun w' _ => by simp [Instr.lookup, run_underlying ht, run_checkKey hd hk, Instr.findKey, run_underlying hk, Instr.findNow, hzw]⟩
  · cases hev

end
end Go.Proofs.YtmjdgpiofhildaaDoor
