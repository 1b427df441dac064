/- The operations that make or turn something, in one statement. -/
import Derived.Test.YtmjdgpiofhildaaDoorAbs13
namespace Go.Proofs.YtmjdgpiofhildaaDoor
open Go.RowKit
section
variable {P : Program} {B : Base} {C D : Cx} {h : Heap} {w w' : World} {G : Gam}

theorem left_val {s : Sem Value} {v : AV} {h' : Heap} (k : ∃ u D w', s.run P w = .ok u w' ∧ C.Le D ∧ Inv B D h' w' ∧ Rel D v u ∧ Below B w w') :
    Left P B C w (Sem.run P (do pure (Next.value (← s))) w) v h' := by
  obtain ⟨u, D, w', k1, k2, k3, k4, k5⟩ := k
  exact ⟨.value u, u, D, w', by simp [k1], .inl rfl, k2, k3, k4, k5⟩
theorem left_unit {s : Sem Unit} {h' : Heap} (k : ∃ D w', s.run P w = .ok () w' ∧ C.Le D ∧ Inv B D h' w' ∧ Below B w w') :
    Left P B C w (Sem.run P (do s; pure Next.skip) w) .junk h' := by
  obtain ⟨D, w', k1, k2, k3, k4⟩ := k
  exact ⟨.skip, undef, D, w', by simp [k1], .inr ⟨rfl, rfl⟩, k2, k3, .junk _, k4⟩

theorem one_val {vals : List AV} {x : Value} (h : RelL C vals [x]) : ∃ a, vals = [a] ∧ Rel C a x := by
  cases vals with
  | nil => simp [RelL] at h
  | cons a as =>
    obtain ⟨y, us, e, r1, r2⟩ := h.inv_cons
    injection e with e1 e2; subst e1 e2
    cases as with
    | nil => exact ⟨a, rfl, r1⟩
    | cons _ _ => simp [RelL] at r2
theorem two_vals {vals : List AV} {x y : Value} (h : RelL C vals [x, y]) : ∃ a b, vals = [a, b] ∧ Rel C a x ∧ Rel C b y := by
  cases vals with
  | nil => simp [RelL] at h
  | cons a as =>
    obtain ⟨z, us, e, r1, r2⟩ := h.inv_cons
    injection e with e1 e2; subst e1 e2
    obtain ⟨b, rfl, r3⟩ := one_val r2
    exact ⟨a, b, rfl, r1, r3⟩
theorem three_vals {vals : List AV} {x y z : Value} (h : RelL C vals [x, y, z]) : ∃ a b c, vals = [a, b, c] ∧ Rel C a x ∧ Rel C b y ∧ Rel C c z := by
  cases vals with
  | nil => simp [RelL] at h
  | cons a as =>
    obtain ⟨_, us, e, r1, r2⟩ := h.inv_cons
    injection e with e1 e2; subst e1 e2
    obtain ⟨b, c, rfl, r3, r4⟩ := two_vals r2
    exact ⟨a, b, c, rfl, r1, r3, r4⟩
theorem no_vals {vals : List AV} (h : RelL C vals []) : vals = [] := by
  cases vals with
  | nil => rfl
  | cons a as => simp [RelL] at h

theorem st_sound (hi : Inv B C h w) {t : TypeId} {n : Nat} (hn : tsize P t = some n) {a v : AV} {x y : Value} {h' : Heap} (hx : Rel C a x) (hy : Rel C v y) (he : stAV n h a v = some h') :
    ∃ D w', (Instr.storeAt t x y).run P w = .ok () w' ∧ C.Le D ∧ Inv B D h' w' ∧ Below B w w' := by
  unfold stAV at he
  split at he
  · rename_i hc
    obtain ⟨c1, c2, c3⟩ := hc
    cases a with
    | ptr l off =>
      simp only at he
      split at he
      · rename_i vs hl
        split at he
        · rename_i hroom
          injection he with he; subst he
          obtain ⟨w', k1, k2, k3⟩ := store_ptr hi hn hx hy hl c1 c2 c3 hroom
          exact ⟨C, w', k1, .refl C, k2, k3⟩
        · cases he
      · cases he
    | eptr l ver i off =>
      simp only at he
      split at he
      · rename_i u h1 hf
        split at he
        · rename_i sz ver' rows hl
          split at he
          · rename_i hv; subst hv
            split at he
            · rename_i row hrow
              split at he
              · rename_i hc2
                obtain ⟨e1, e2, e3⟩ := hc2
                injection he with he; subst he
                obtain ⟨D, d1, d2, d3, d4, d5⟩ := frz_sound hi hf hy
                obtain ⟨w', k1, k2, k3⟩ := store_eptr d2 hn (hx.mono d1) d3 hl hrow e2 c2 e3 e1
                exact ⟨D, w', k1, d1, k2, k3⟩
              · cases he
            · cases he
          · cases he
        · cases he
      · cases he
    | _ => simp at he
  · cases he

theorem nxt_sound (hi : Inv B C h w) {l : Nat} {x : Value} {ty : TypeId} {v : AV} {h' : Heap} (hx : Rel C (.ptr l 0) x) (he : evalEff G h .nxt [.ptr l 0] = some (v, h')) :
    ∃ u D w', (Instr.next x true ty).run P w = .ok u w' ∧ C.Le D ∧ Inv B D h' w' ∧ Rel D v u ∧ Below B w w' := by
  simp only [evalEff] at he
  split at he
  · rename_i s pos hl
    cases hx with
    | ptr _ _ b hb =>
      obtain ⟨b', h1, h2, h3⟩ := hi.ok l _ hl
      rw [hb] at h1; injection h1 with h1; subst h1
      split at he
      · rename_i hp
        simp only [Option.some.injEq, Prod.mk.injEq] at he
        obtain ⟨rfl, rfl⟩ := he
        have hrun : (Instr.next (.pointer (some ⟨b, 0, none⟩)) true ty).run P w = .ok (.tuple #[.bool true, .int .i64 pos, .int .i32 (Utf8.decode ⟨s.toArray⟩ pos).1]) (World.put w b (.stringIter ⟨s.toArray⟩ (pos + (Utf8.decode ⟨s.toArray⟩ pos).2))) := by
          simp only [Instr.next, Sem.run_bind, getObj, Sem.run, h3, Result.andThen_ok]
          rw [if_pos (by rw [size_ba]; exact hp)]
          simp [setObj, Sem.run, h3, World.put, goInt]
        refine ⟨_, C, _, hrun, .refl C, turn_obj hi hl hb (by simp [blockOf, hb]) h3 (fun c e f => by simp) h2 ⟨b, hb, h2, put_same h3⟩ (fun b' hb' => by simp [blockOf, hb] at hb'; exact hb'.symm) (fun _ _ _ _ => by simp), ?_, put_below h2⟩
        exact .tup _ _ rfl (fun i c u hc hu => by
          match i with
          | 0 => simp at hc hu; subst hc hu; exact .bool _
          | 1 => simp at hc hu; subst hc hu; exact .int _ _
          | 2 => simp at hc hu; subst hc hu; exact .int _ _
          | _ + 3 => simp at hc)
      · rename_i hp
        simp only [Option.some.injEq, Prod.mk.injEq] at he
        obtain ⟨rfl, rfl⟩ := he
        have hrun : (Instr.next (.pointer (some ⟨b, 0, none⟩)) true ty).run P w = .ok (.tuple #[.bool false]) w := by
          simp only [Instr.next, Sem.run_bind, getObj, Sem.run, h3, Result.andThen_ok]
          rw [if_neg (by rw [size_ba]; exact hp)]
          simp
        refine ⟨_, C, _, hrun, .refl C, hi, ?_, Below.refl _ _⟩
        exact .tup _ _ rfl (fun i c u hc hu => by
          match i with
          | 0 => simp at hc hu; subst hc hu; exact .bool _
          | _ + 1 => simp at hc)
  · cases he

theorem tzero_run {t : TypeId} {z : List AV} (hz : tzero P t = some z) (C : Cx) : ∃ zv, (∀ w, (zeroValue t).run P w = .ok zv w) ∧ RelL C z zv.cells.toList := by
  obtain ⟨i, zv, h1, h2, h3⟩ := tzero_rel (C := C) hz
  exact ⟨zv, fun w => by simp [zeroValue, typeInfo, h1, h2], h3⟩

/-- An operation that makes or turns something, as it is resolved. -/
def EffOK (P : Program) (B : Base) (C : Cx) (h : Heap) (w : World) (G : Gam) (ty : TypeId) (o : Op) (ao : AO) (xs : List Operand) : Prop :=
  ∀ (vals : List AV) (v : AV) (h' : Heap) (ρ : Operand → Value) (oper : Oper), (∀ u, ρ (.const u) = u) → oper.op = o → oper.type = ty → RelL C vals (xs.map ρ) → evalEff G h ao vals = some (v, h') → Left P B C w ((execOp ρ oper).run P w) v h'

theorem eff_sound (hi : Inv B C h w) {own : Bool} {ty : TypeId} {o : Op} {ao : AO} {xs : List Operand} (hc : compEff P own ty o = some (ao, xs)) : EffOK P B C h w G ty o ao xs := by
  intro vals v h' ρ oper hρ hop hty hrel hev
  have ex : execOp ρ oper = execOp ρ { oper with op := o } := by rw [← hop]
  rw [ex]
  clear ex hop
  unfold compEff at hc
  split at hc
  · -- alloc
    rename_i e
    split at hc
    · rename_i z hz
      simp only [Option.some.injEq, Prod.mk.injEq] at hc; obtain ⟨rfl, rfl⟩ := hc
      have := no_vals hrel; subst this
      simp only [evalEff, Option.some.injEq, Prod.mk.injEq] at hev; obtain ⟨rfl, rfl⟩ := hev
      obtain ⟨zv, z1, z2⟩ := tzero_run hz C
      obtain ⟨a1, a2, a3⟩ := add_cells hi z2 e
      exact left_val ⟨_, _, _, by simp [Instr.alloc, z1, newVar, newRow], a3, a1, a2, below_of hi (below_alloc w _)⟩
    · cases hc
  · -- box
    rename_i e x
    simp only [Option.some.injEq, Prod.mk.injEq] at hc; obtain ⟨rfl, rfl⟩ := hc
    obtain ⟨a, rfl, ha⟩ := one_val hrel
    simp only [evalEff] at hev
    split at hev
    · cases hev
    · rename_i c cs hcs
      simp only [Option.some.injEq, Prod.mk.injEq] at hev; obtain ⟨rfl, rfl⟩ := hev
      have hcells := cells_rel ha (by rw [hcs]; simp)
      obtain ⟨a1, a2, a3⟩ := add_cells hi hcells e
      rw [hcs] at a1
      exact left_val ⟨_, _, _, by simp [Instr.box, newVar, newRow], a3, a1, a2, below_of hi (below_alloc w _)⟩
  · -- store
    rename_i t a x
    split at hc
    · rename_i n hn
      simp only [Option.some.injEq, Prod.mk.injEq] at hc; obtain ⟨rfl, rfl⟩ := hc
      obtain ⟨va, vx, rfl, h1, h2⟩ := two_vals hrel
      simp only [evalEff, Option.map_eq_some_iff, Prod.mk.injEq] at hev
      obtain ⟨h1', he, rfl, rfl⟩ := hev
      exact left_unit (st_sound hi hn h1 h2 he)
    · cases hc
  · -- a nil slice
    split at hc
    · rename_i e he
      split at hc
      · rename_i n hn
        simp only [Option.some.injEq, Prod.mk.injEq] at hc; obtain ⟨rfl, rfl⟩ := hc
        have := no_vals hrel; subst this
        simp only [evalEff, Option.some.injEq, Prod.mk.injEq] at hev; obtain ⟨rfl, rfl⟩ := hev
        obtain ⟨a1, a2, a3⟩ := add_nil hi n
        refine ⟨_, _, _, w, rfl, .inl rfl, a3, a1, ?_, Below.refl _ _⟩
        rw [hρ]; exact a2
      · cases hc
    · cases hc
  · -- a map
    simp only [Option.some.injEq, Prod.mk.injEq] at hc; obtain ⟨rfl, rfl⟩ := hc
    have := no_vals hrel; subst this
    simp only [evalEff, Option.some.injEq, Prod.mk.injEq] at hev; obtain ⟨rfl, rfl⟩ := hev
    obtain ⟨a1, a2, a3⟩ := add_map hi
    exact left_val ⟨_, _, _, by simp [Instr.makeMap], a3, a1, a2, below_of hi (below_alloc w _)⟩
  · -- an entry
    rename_i t m k x
    split at hc
    · rename_i kt et ht
      split at hc
      · rename_i e hk
        simp only [Option.some.injEq, Prod.mk.injEq] at hc; obtain ⟨rfl, rfl⟩ := hc
        obtain ⟨vm, vk, vx, rfl, h1, h2, h3⟩ := three_vals hrel
        cases vm with
        | map l =>
          simp only [evalEff] at hev
          split at hev
          · rename_i hkey
            split at hev
            · rename_i u h1' hf
              split at hev
              · rename_i es hl
                simp only [Option.map_eq_some_iff, Prod.mk.injEq] at hev
                obtain ⟨es', hp, rfl, rfl⟩ := hev
                exact left_unit (mapup_sound hi ht hk h1 h2 h3 hkey hf hl hp)
              · cases hev
            · cases hev
          · cases hev
        | _ => simp [evalEff] at hev
      · cases hc
    · cases hc
  · -- a made slice
    rename_i t l c
    split at hc
    · rename_i e ht
      split at hc
      · rename_i z b n hz hb hn
        split at hc
        · rename_i hcc
          simp only [Option.some.injEq, Prod.mk.injEq] at hc; obtain ⟨rfl, rfl⟩ := hc
          obtain ⟨vl, vc, rfl, h1, h2⟩ := two_vals hrel
          cases vl <;> first | (simp [evalEff] at hev; done) | skip
          cases vc <;> first | (simp [evalEff] at hev; done) | skip
          rename_i k1 l1 k2 c1
          simp only [evalEff] at hev
          split at hev
          · rename_i hcond
            simp only [Option.some.injEq, Prod.mk.injEq] at hev; obtain ⟨rfl, rfl⟩ := hev
            obtain ⟨q1, q2, q3, q4⟩ := hcond
            obtain ⟨D, m1, m2, m3, m4⟩ := mksl_sound hi (k1 := k1) (k2 := k2) ht hz hb hn hcc.1 hcc.2 q1 q2 q3 q4
            have e1 := int_inv h1
            have e2 := int_inv h2
            refine left_val ⟨_, D, _, ?_, m2, m3, m4, below_of hi (below_alloc w _)⟩
            rw [e1, e2]; exact m1
          · cases hev
        · cases hc
      · cases hc
    · cases hc
  · -- a slice written out
    rename_i t len parts
    split at hc
    · rename_i e ht
      split at hc
      · rename_i n z hn hz
        split at hc
        · rename_i hp
          simp only [Option.some.injEq, Prod.mk.injEq] at hc; obtain ⟨rfl, rfl⟩ := hc
          exact left_val (bsl_sound hi ht hn hz hp hrel hev)
        · cases hc
      · cases hc
    · cases hc
  · -- append
    rename_i args argTypes
    split at hc
    · rename_i s x t tx hargs htys
      have eargs : args = #[s, x] := by rw [← Array.toList_inj]; simpa using hargs
      have etys : argTypes = #[t, tx] := by rw [← Array.toList_inj]; simpa using htys
      subst eargs etys
      have app : ∀ {str : Bool} {n b : Nat} {e : TypeId} {z : List AV}, P.underlying t = some (.slice e) → tsize P e = some n → tbytes P e = some b → tzero P e = some z → z.length = n →
          (str = true → P.underlying tx = some .string ∧ n = 1) → (str = false → ∃ e, P.underlying tx = some (.slice e)) → RelL C vals ([s, x].map ρ) → evalEff G h (.app str n b) vals = some (v, h') →
          Left P B C w ((execOp ρ { oper with op := .call { callee := .builtin .append, args := #[s, x], argTypes := #[t, tx] } }).run P w) v h' := by
        intro str n b e z ht hn hb hz hzl k1 k2 hrel hev
        obtain ⟨vs, vx, rfl, h1, h2⟩ := two_vals hrel
        simp only [evalEff] at hev
        split at hev
        · rename_i new hnew
          split at hev
          · rename_i hsz
            have := app_sound (ty := oper.type) hi ht hn hb hz hzl h1 h2 hnew hsz k1 k2 hev
            have em : #[s, x].map ρ = #[ρ s, ρ x] := by simp
            rw [← em] at this
            exact left_val this
          · cases hev
        · cases hev
      split at hc
      · rename_i e ht
        split at hc
        · rename_i n b z e2 hn hb hz htx
          split at hc
          · rename_i hcc
            simp only [Option.some.injEq, Prod.mk.injEq] at hc; obtain ⟨rfl, rfl⟩ := hc
            exact app ht hn hb hz hcc.2 (fun e => by cases e) (fun _ => ⟨e2, htx⟩) hrel hev
          · cases hc
        · rename_i n b z hn hb hz htx
          split at hc
          · rename_i hcc
            simp only [Option.some.injEq, Prod.mk.injEq] at hc; obtain ⟨rfl, rfl⟩ := hc
            exact app ht hn hb hz hcc.2 (fun _ => ⟨htx, hcc.1⟩) (fun e => by cases e) hrel hev
          · cases hc
        · cases hc
      · cases hc
    · cases hc
  · -- a range over a string
    rename_i t x
    split at hc
    · rename_i ht
      simp only [Option.some.injEq, Prod.mk.injEq] at hc; obtain ⟨rfl, rfl⟩ := hc
      obtain ⟨a, rfl, ha⟩ := one_val hrel
      cases a <;> first | (simp [evalEff] at hev; done) | skip
      rename_i s
      simp only [evalEff, Option.some.injEq, Prod.mk.injEq] at hev; obtain ⟨rfl, rfl⟩ := hev
      obtain ⟨a1, a2, a3⟩ := add_iter hi s
      have e1 := str_inv ha
      refine left_val ⟨_, _, _, ?_, a3, a1, a2, below_of hi (below_alloc w _)⟩
      rw [e1]; simp [Instr.range, run_underlying ht]
    · cases hc
  · -- next
    rename_i it
    simp only [Option.some.injEq, Prod.mk.injEq] at hc; obtain ⟨rfl, rfl⟩ := hc
    obtain ⟨a, rfl, ha⟩ := one_val hrel
    cases a with
    | ptr l off =>
      cases off with
      | zero => exact left_val (nxt_sound (G := G) hi ha hev)
      | succ _ => simp [evalEff] at hev
    | _ => simp [evalEff] at hev
  · cases hc

end
end Go.Proofs.YtmjdgpiofhildaaDoor
