/- Struct literals; then every operation that only looks. -/
import Derived.Test.YtmjdgpiofhildaaDoorAbs6
namespace Go.Proofs.YtmjdgpiofhildaaDoor
open Go.RowKit
section
variable {P : Program} {B : Base} {C : Cx} {h : Heap} {w : World}

theorem setAt_fill : ∀ (cs : List AV) (vs : List Value) (base : List AV) (cells : Array Value) (off k : Nat), RelL C base cells.toList → RelL C cs vs →
    RelL C (setAt base (off + k) cs) ((vs.zipIdx k).foldl (fun a (x : Value × Nat) => a.setIfInBounds (off + x.2) x.1) cells).toList
  | [], vs, base, cells, off, k, hb, hc => by
    have := hc.inv_nil; subst this
    simpa [setAt] using hb
  | c :: cs, vs, base, cells, off, k, hb, hc => by
    obtain ⟨v, vs', rfl, h1, h2⟩ := hc.inv_cons
    simp only [setAt, List.zipIdx_cons, List.foldl_cons]
    exact setAt_fill cs vs' _ _ off (k + 1) (by rw [Array.toList_setIfInBounds]; exact hb.set (off + k) h1) h2

theorem bld_fill (pl : Nat → Option (Nat × Nat)) : ∀ (parts : List (Nat × Operand)) (ρ : Operand → Value) (qs : List (Nat × Nat)) (base : List AV) (cells : Array Value) (vs as : List AV),
    placesOf pl parts = some qs → RelL C base cells.toList → RelL C vs (parts.map fun p => ρ p.2) → bldAV base qs vs = some as →
    ∃ cells', Instr.fill pl cells (parts.map fun p => (p.1, ρ p.2)) = some cells' ∧ RelL C as cells'.toList
  | [], ρ, qs, base, cells, vs, as, hp, hb, hv, he => by
    simp [placesOf] at hp; subst hp
    cases vs with
    | nil => simp [bldAV] at he; subst he; exact ⟨cells, rfl, hb⟩
    | cons _ _ => simp [bldAV] at he
  | (i, x) :: r, ρ, qs, base, cells, vs, as, hp, hb, hv, he => by
    simp only [placesOf] at hp
    split at hp
    · rename_i q qs' h1 h2
      injection hp with hp; subst hp
      obtain ⟨off, size⟩ := q
      cases vs with
      | nil => simp [bldAV] at he
      | cons v vs =>
        simp only [bldAV] at he
        split at he
        · rename_i hc
          obtain ⟨c1, c2, c3⟩ := hc
          obtain ⟨u, us, e, r1, r2⟩ := hv.inv_cons
          simp at e
          obtain ⟨rfl, rfl⟩ := e
          have hcells := cells_rel r1 (by intro e; rw [e] at c1; simp at c1; omega)
          have hl1 := hcells.1
          have hl2 := hb.1
          simp at hl1 hl2
          have hfold := setAt_fill _ _ _ _ off 0 hb hcells
          obtain ⟨cells', f1, f2⟩ := bld_fill pl r ρ qs' _ _ vs as h2 hfold r2 he
          refine ⟨cells', ?_, f2⟩
          simp only [List.map_cons, Instr.fill, h1]
          rw [if_neg (by simp; omega)]
          rw [← f1]
          congr 1
          rw [← Array.foldl_toList, Array.toList_zipIdx]
        · cases he
    · cases hp

theorem tzero_rel {t : TypeId} {z : List AV} (hz : tzero P t = some z) : ∃ i zv, P.info? t = some i ∧ i.zero = some zv ∧ RelL C z zv.cells.toList := by
  unfold tzero at hz
  cases hi : P.info? t with
  | none => simp [hi] at hz
  | some i =>
    cases hzz : i.zero with
    | none => simp [hi, hzz] at hz
    | some zv =>
      simp [hi, hzz] at hz
      exact ⟨i, zv, rfl, hzz, ofCells_rel hz⟩

theorem build_sound {t : TypeId} {z : List AV} (hz : tzero P t = some z) {pl : Nat → Option (Nat × Nat)} (hpl : placeFn P t = some pl) {parts : Array (Nat × Operand)} {qs : List (Nat × Nat)} (hq : placesOf pl parts.toList = some qs)
    {ρ : Operand → Value} {vs as : List AV} (hv : RelL C vs (parts.toList.map fun p => ρ p.2)) (he : bldAV z qs vs = some as) :
    ∃ cells, RelL C as cells.toList ∧ ∀ w, (Instr.build t (parts.map fun (i, x) => (i, ρ x))).run P w = .ok (.agg cells) w := by
  obtain ⟨i, zv, hi, hzz, hrel⟩ := tzero_rel (C := C) hz
  obtain ⟨cells, h1, h2⟩ := bld_fill pl parts.toList ρ qs z zv.cells vs as hq hrel hv he
  refine ⟨cells, h2, fun w => run_build w t _ cells ?_⟩
  have hl : (parts.map fun (x : Nat × Operand) => (x.1, ρ x.2)).toList = parts.toList.map fun p => (p.1, ρ p.2) := by simp
  show P.built t (parts.map fun (x : Nat × Operand) => (x.1, ρ x.2)).toList = some cells
  rw [hl]
  unfold placeFn at hpl
  cases hu : P.underlying t with
  | none => simp [hu] at hpl
  | some d =>
    cases d <;> simp only [hu] at hpl <;> (first | cases hpl | skip)
    case some.struct fs =>
      cases hm : fs.toList.mapM (fun f => (P.info? f.type).map fun i => (f.offset, i.size)) with
      | none => simp [hm] at hpl
      | some places =>
        simp only [hm, Option.map_some, Option.some.injEq] at hpl; subst hpl
        simp only [Program.built, hi, hu, hzz, hm]
        exact h1
    case some.array n e =>
      cases he' : P.info? e with
      | none => simp [he'] at hpl
      | some ie =>
        simp only [he', Option.map_some, Option.some.injEq] at hpl; subst hpl
        simp only [Program.built, hi, hu, hzz, he']
        exact h1

theorem flatEq_struct {t : TypeId} {fs : Array Field} (hu : P.underlying t = some (.struct fs)) (d : Nat) : flatEq P (d + 1) t = if P.stoodInHeld t then none else flatFields P (flatEq P d) fs.toList 0 := by
  simp only [flatEq, hu]

theorem eqTop {t : TypeId} {fs : Array Field} {ks : List EK} (hu : P.underlying t = some (.struct fs)) (hk : flatEq P 100 t = some ks) {us vs : Array Value} {as bs : List AV} {b : Bool}
    (h1 : RelL C as us.toList) (h2 : RelL C bs vs.toList) (l1 : as.length = ks.length) (l2 : bs.length = ks.length) (he : eqCells ks as bs = some b) (w : World) :
    (Op.equalIn 10000 t (.agg us) (.agg vs)).run P w = .ok b w := by
  have hk' : (if P.stoodInHeld t then none else flatFields P (flatEq P 99) fs.toList 0) = some ks := by
    have : flatEq P (99 + 1) t = some ks := hk
    rw [flatEq_struct hu] at this; exact this
  split at hk'
  · cases hk'
  · rename_i hst
    have hfo : P.fieldsOf t = fs := by simp [Program.fieldsOf, hu]
    have hu' : P.underlying t = some (.struct (P.fieldsOf t)) := by rw [hfo]; exact hu
    have e := run_equalIn_struct (P := P) w 9999 t us vs hu' (by simpa using hst)
    rw [hfo] at e
    rw [show (10000 : Nat) = 9999 + 1 from rfl, e]
    have := eqFields_of (eqAt 99) fs.toList 0 ks us vs as bs b hk' (by rw [List.drop_zero, ← l1, h1.1, List.take_length]; exact h1) (by rw [List.drop_zero, ← l2, h2.1, List.take_length]; exact h2) l1 l2 he 9900 w
    exact this

theorem vals3 {vals : List AV} {x y z : Value} (h : RelL C vals [x, y, z]) : ∃ a b c, vals = [a, b, c] ∧ Rel C a x ∧ Rel C b y ∧ Rel C c z := by
  obtain ⟨hl, hr⟩ := h
  match vals, hl with
  | [a, b, c], _ => exact ⟨a, b, c, rfl, hr 0 _ _ rfl rfl, hr 1 _ _ rfl rfl, hr 2 _ _ rfl rfl⟩

/-- An operation, as it is resolved. -/
def CompOK (P : Program) (C : Cx) (h : Heap) (w : World) (o : Op) (ao : AO) (xs : List Operand) : Prop :=
  ∀ (vals : List AV) (v : AV) (ρ : Operand → Value) (oper : Oper), oper.op = o → RelL C vals (xs.map ρ) → evalPure h ao vals = some v → ∃ u, Rel C v u ∧ ∀ w', Below w.heap.size w w' → (execOp ρ oper).run P w' = .ok (.value u) w'

theorem pure_sound (hi : Inv B C h w) {o : Op} {ao : AO} {xs : List Operand} (hc : compPure P o = some (ao, xs)) : CompOK P C h w o ao xs := by
  intro vals v ρ oper hop hrel hev
  have ex : execOp ρ oper = execOp ρ { oper with op := o } := by rw [← hop]
  rw [ex]
  clear ex hop
  have val1 : ∀ {x : Operand} {op : Op} (k : ∀ a, vals = [a] → Rel C a (ρ x) → ∃ u, Rel C v u ∧ ∀ w', Below w.heap.size w w' → (execOp ρ { oper with op := op }).run P w' = .ok (.value u) w') (hx : RelL C vals [ρ x]),
      ∃ u, Rel C v u ∧ ∀ w', Below w.heap.size w w' → (execOp ρ { oper with op := op }).run P w' = .ok (.value u) w' := by
    intro x op k hx
    cases vals with
    | nil => simp [RelL] at hx
    | cons a as =>
      obtain ⟨y, us, e, r1, r2⟩ := hx.inv_cons
      injection e with e1 e2; subst e1 e2
      cases as with
      | nil => exact k a rfl r1
      | cons _ _ => simp [RelL] at r2
  have val2 : ∀ {x y : Operand} {op : Op} (k : ∀ a b, vals = [a, b] → Rel C a (ρ x) → Rel C b (ρ y) → ∃ u, Rel C v u ∧ ∀ w', Below w.heap.size w w' → (execOp ρ { oper with op := op }).run P w' = .ok (.value u) w') (hx : RelL C vals [ρ x, ρ y]),
      ∃ u, Rel C v u ∧ ∀ w', Below w.heap.size w w' → (execOp ρ { oper with op := op }).run P w' = .ok (.value u) w' := by
    intro x y op k hx
    cases vals with
    | nil => simp [RelL] at hx
    | cons a as =>
      obtain ⟨y, us, e, r1, r2⟩ := hx.inv_cons
      injection e with e1 e2; subst e1 e2
      cases as with
      | nil => simp [RelL] at r2
      | cons b bs =>
        obtain ⟨y, us, e, r3, r4⟩ := r2.inv_cons
        injection e with e1 e2; subst e1 e2
        cases bs with
        | nil => exact k a b rfl r1 r3
        | cons _ _ => simp [RelL] at r4
  have lift : ∀ {op : Op} {u : Value} {s : World → Prop} (f : Sem Value), (∀ w', (execOp ρ { oper with op := op }).run P w' = ((do pure (.value (← f)) : Sem Next)).run P w') → (∀ w', s w' → f.run P w' = .ok u w') → ∀ w', s w' → (execOp ρ { oper with op := op }).run P w' = .ok (.value u) w' := by
    intro op u s f h1 h2 w' hs
    rw [h1, Sem.run_bind, h2 w' hs]; rfl
  cases o with
  | move x =>
    simp only [compPure] at hc; cases hc
    refine val1 (x := x) (fun a e r => ?_) hrel
    subst e; simp only [evalPure] at hev; injection hev with hev; subst hev
    exact ⟨_, r, fun w' _ => rfl⟩
  | assign x =>
    simp only [compPure] at hc; cases hc
    refine val1 (x := x) (fun a e r => ?_) hrel
    subst e; simp only [evalPure] at hev; injection hev with hev; subst hev
    exact ⟨_, r, fun w' _ => rfl⟩
  | pick c x y =>
    simp only [compPure] at hc; cases hc
    obtain ⟨vc, a, b, rfl, r1, r3, r4⟩ := vals3 hrel
    cases vc <;> simp only [evalPure] at hev <;> (first | cases hev | skip)
    rename_i bb
    have e1 := bool_inv r1
    refine ⟨if bb then ρ x else ρ y, by cases bb <;> assumption, fun w' _ => ?_⟩
    simp only [execOp, e1, asBool]
    cases bb <;> rfl
  | binOp op t x y yt =>
    simp only [compPure] at hc
    cases hu : P.underlying t with
    | none => simp [hu] at hc
    | some d =>
      have plain : ao = .bin op → xs = [x, y] → ∃ u, Rel C v u ∧ ∀ w', Below w.heap.size w w' → (execOp ρ { oper with op := .binOp op t x y yt }).run P w' = .ok (.value u) w' := by
        rintro rfl rfl
        refine val2 (x := x) (y := y) (fun a b e r1 r2 => ?_) hrel
        subst e
        simp only [evalPure] at hev
        obtain ⟨u, h1, h2⟩ := binAV_sound r1 r2 hev t x y
        exact ⟨u, h1, lift _ (fun w' => rfl) (fun w' _ => h2 w')⟩
      cases d <;> simp only [hu] at hc <;> (first | cases hc | skip)
      case some.bool =>
        have bb : ∀ neg : Bool, (op = if neg then .neq else .eql) → ao = .eqB neg → xs = [x, y] → ∃ u, Rel C v u ∧ ∀ w', Below w.heap.size w w' → (execOp ρ { oper with op := .binOp op t x y yt }).run P w' = .ok (.value u) w' := by
          rintro neg hop rfl rfl
          refine val2 (x := x) (y := y) (fun a b e r1 r2 => ?_) hrel
          subst e
          cases a <;> cases b <;> simp only [evalPure] at hev <;> (first | cases hev | skip)
          rename_i p q
          have e1 := bool_inv r1
          have e2 := bool_inv r2
          refine ⟨_, .bool _, lift _ (fun w' => rfl) (fun w' _ => ?_)⟩
          subst hop
          rw [e1, e2]
          have := fun w => run_equalIn_bool' (P := P) w 9999 t p q hu
          cases neg <;> simp [run_eqGuard_scalar, Value.oneCell', binOp, Op.equal, Op.maxDepth, this]
        cases op <;> simp only at hc <;> (first | cases hc | skip)
        · exact bb false rfl rfl rfl
        · exact bb true rfl rfl rfl
      case some.int.refl q => exact plain rfl rfl
      case some.string.refl => exact plain rfl rfl
      case some.struct fs =>
        split at hc
        · rename_i hg
          split at hc
          · rename_i ks hk
            split at hc
            · rename_i hs
              have ee : ∀ neg : Bool, (op = if neg then .neq else .eql) → ao = .eqA neg ks → xs = [x, y] → ∃ u, Rel C v u ∧ ∀ w', Below w.heap.size w w' → (execOp ρ { oper with op := .binOp op t x y yt }).run P w' = .ok (.value u) w' := by
                rintro neg hop rfl rfl
                refine val2 (x := x) (y := y) (fun a b e r1 r2 => ?_) hrel
                subst e
                cases a <;> cases b <;> simp only [evalPure] at hev <;> (first | cases hev | skip)
                rename_i as bs
                split at hev
                · rename_i hlen
                  cases he : eqCells ks as bs with
                  | none => simp [he] at hev
                  | some bb =>
                    simp only [he, Option.map_some, Option.some.injEq] at hev; subst hev
                    obtain ⟨us, e1, q1⟩ := agg_inv r1
                    obtain ⟨vs, e2, q2⟩ := agg_inv r2
                    refine ⟨_, .bool _, lift _ (fun w' => rfl) (fun w' _ => ?_)⟩
                    have ht := eqTop hu hk q1 q2 hlen.1 hlen.2 he w'
                    subst hop
                    rw [e1, e2]
                    cases neg
                    · simp [run_eqGuard_agg (P := P) _ _ _ _ _ _ _ hg, run_eql_struct, ht]
                    · simp [run_eqGuard_agg (P := P) _ _ _ _ _ _ _ hg, run_neq_struct, ht]
                · cases hev
              cases op <;> simp only at hc <;> (first | cases hc | skip)
              · exact ee false rfl rfl rfl
              · exact ee true rfl rfl rfl
            · cases hc
          · cases hc
        · cases hc
  | unOp op t x =>
    simp only [compPure] at hc; cases hc
    refine val1 (x := x) (fun a e r => ?_) hrel
    subst e; simp only [evalPure] at hev
    cases a <;> simp only [unAV] at hev <;> (first | cases hev | skip)
    · rename_i b
      have e1 := bool_inv r
      cases op <;> simp only at hev <;> (first | cases hev | skip)
      exact ⟨_, .bool _, lift _ (fun w' => rfl) (fun w' _ => by rw [e1]; simp [Op.unary])⟩
    · rename_i k n
      have e1 := int_inv r
      cases op <;> simp only at hev <;> (first | cases hev | skip)
      · exact ⟨_, .int _ _, lift _ (fun w' => rfl) (fun w' _ => by rw [e1]; simp [Op.unary, Op.intArith])⟩
      · exact ⟨_, .int _ _, lift _ (fun w' => rfl) (fun w' _ => by rw [e1]; simp [Op.unary, Op.intBits])⟩
  | convert sT d x =>
    simp only [compPure] at hc
    split at hc
    · rename_i k' k h1 h2
      cases hc
      refine val1 (x := x) (fun a e r => ?_) hrel
      subst e
      cases a <;> simp only [evalPure] at hev <;> (first | cases hev | skip)
      have e1 := int_inv r
      exact ⟨_, .int _ _, lift _ (fun w' => rfl) (fun w' _ => by rw [e1]; simp [convert, run_underlying h1, run_underlying h2, Conv.intToInt])⟩
    · rename_i h1 h2
      cases hc
      refine val1 (x := x) (fun a e r => ?_) hrel
      subst e
      cases a <;> simp only [evalPure] at hev <;> (first | cases hev | skip)
      have e1 := str_inv r
      exact ⟨_, r, lift _ (fun w' => rfl) (fun w' _ => by rw [e1]; simp [convert, run_underlying h1, run_underlying h2])⟩
    · cases hc
  | fieldAddr sT x f =>
    simp only [compPure] at hc
    split at hc
    · rename_i fs hu
      split at hc
      · rename_i fd hfd
        split at hc
        · rename_i n hn
          split at hc
          · cases hc
          · rename_i hn0
            cases hc
            refine val1 (x := x) (fun a e r => ?_) hrel
            subst e
            have core : ∀ b o, ρ x = .pointer (some ⟨b, o, none⟩) → ∀ w', (Instr.fieldAt sT (ρ x) f).run P w' = .ok (.pointer (some ⟨b, o + fd.offset, none⟩)) w' := by
              intro b o e w'
              rw [e]
              simp [Instr.fieldAt, run_underlying hu, hfd, Instr.sureAddr, fieldPlace, run_sizeOf' hn, hn0, Addr.add_lit]
            cases a <;> simp only [evalPure] at hev <;> (first | cases hev | skip)
            · rename_i l off
              cases hp : ρ x <;> rw [hp] at r <;> (first | cases r | skip)
              rename_i b hb
              exact ⟨_, .ptr l (off + fd.offset) b hb, lift _ (fun w' => rfl) (fun w' _ => core b off hp w')⟩
            · rename_i row off
              cases hp : ρ x <;> rw [hp] at r <;> (first | cases r | skip)
              rename_i b o us hc1 hr1
              exact ⟨_, .fptr row (off + fd.offset) b o us hc1 hr1, lift _ (fun w' => rfl) (fun w' _ => by rw [← Nat.add_assoc]; exact core b (o + off) hp w')⟩
            · rename_i l ver i off
              cases hp : ρ x <;> rw [hp] at r <;> (first | cases r | skip)
              rename_i rr hb
              exact ⟨_, .eptr l ver i (off + fd.offset) rr hb, lift _ (fun w' => rfl) (fun w' _ => by rw [← Nat.add_assoc]; exact core rr.block (i * rr.size + off) hp w')⟩
        · cases hc
      · cases hc
    · cases hc
  | field sT x f =>
    simp only [compPure] at hc
    split at hc
    · rename_i fs hu
      split at hc
      · rename_i fd hfd
        split at hc
        · rename_i n g hn hg
          cases hc
          refine val1 (x := x) (fun a e r => ?_) hrel
          subst e
          cases a <;> simp only [evalPure] at hev <;> (first | cases hev | skip)
          rename_i cs
          obtain ⟨us, e1, q1⟩ := agg_inv r
          have hcut := cut_rel q1 fd.offset n
          refine ⟨_, mkVal_rel hev hcut, lift _ (fun w' => rfl) (fun w' _ => ?_)⟩
          have hlen := mkVal_len hev
          rw [hcut.1] at hlen
          rw [e1]
          cases g with
          | true =>
            simp [Instr.field, run_underlying hu, hfd, asAgg, part, run_isAgg hg, run_sizeOf' hn, mkC]
            apply Array.ext'
            rw [extract_list]; simp
          | false =>
            simp only [Bool.false_eq_true, if_false] at hlen
            cases hl : (us.toList.drop fd.offset).take n with
            | nil => rw [hl] at hlen; simp at hlen
            | cons u us' =>
              have h0 : us[fd.offset]? = some u := by
                have := cut_get (us := us.toList) (off := fd.offset) (size := n) (j := 0) (u := u) (by rw [hl]; rfl)
                simpa using this
              simp [Instr.field, run_underlying hu, hfd, asAgg, part, run_isAgg hg, h0, mkC]
        · cases hc
      · cases hc
    · cases hc
  | indexAddr t x i =>
    simp only [compPure] at hc
    split at hc
    · rename_i e hu
      split at hc
      · rename_i n hn
        cases hc
        refine val2 (x := x) (y := i) (fun a b e r1 r2 => ?_) hrel
        subst e
        simp only [evalPure] at hev
        obtain ⟨u, h1, h2⟩ := indexAddr_sound hi hu hn r1 r2 hev
        exact ⟨u, h1, lift _ (fun w' => rfl) (fun w' _ => h2 w')⟩
      · cases hc
    · rename_i len e hu
      split at hc
      · rename_i n hn
        cases hc
        refine val2 (x := x) (y := i) (fun a b e r1 r2 => ?_) hrel
        subst e
        have core : ∀ bl o k (m : Int), ρ x = .pointer (some ⟨bl, o, none⟩) → ρ i = .int k m → 0 ≤ m → m < len → ∀ w', (Instr.indexAt t (ρ x) (ρ i)).run P w' = .ok (.pointer (some ⟨bl, o + m.toNat * n, none⟩)) w' := by
          intro bl o k m e1 e2 h0 h1 w'
          rw [e1, e2]
          simp [Instr.indexAt, asIntOf, run_underlying hu, Instr.sureAddr, h0, h1, run_sizeOf' hn, Addr.add_lit]
        cases a <;> cases b <;> simp only [evalPure] at hev <;> (first | cases hev | skip)
        · rename_i l off k m
          split at hev
          · rename_i hcond
            injection hev with hev; subst hev
            cases hp : ρ x <;> rw [hp] at r1 <;> (first | cases r1 | skip)
            rename_i bl hb
            exact ⟨_, .ptr l (off + m.toNat * n) bl hb, lift _ (fun w' => rfl) (fun w' _ => core bl off k m hp (int_inv r2) hcond.1 hcond.2.1 w')⟩
          · cases hev
        · rename_i row off k m
          split at hev
          · rename_i hcond
            injection hev with hev; subst hev
            cases hp : ρ x <;> rw [hp] at r1 <;> (first | cases r1 | skip)
            rename_i bl o us hc1 hr1
            exact ⟨_, .fptr row (off + m.toNat * n) bl o us hc1 hr1, lift _ (fun w' => rfl) (fun w' _ => by rw [← Nat.add_assoc]; exact core bl (o + off) k m hp (int_inv r2) hcond.1 hcond.2.1 w')⟩
          · cases hev
      · cases hc
    · cases hc
  | index t x i =>
    simp only [compPure] at hc
    split at hc
    · rename_i hu
      cases hc
      refine val2 (x := x) (y := i) (fun a b e r1 r2 => ?_) hrel
      subst e
      cases a <;> cases b <;> simp only [evalPure] at hev <;> (first | cases hev | skip)
      rename_i sb k m
      split at hev
      · rename_i h0
        split at hev
        · rename_i c hcx
          injection hev with hev; subst hev
          refine ⟨_, .int _ _, lift _ (fun w' => rfl) (fun w' _ => ?_)⟩
          rw [str_inv r1, int_inv r2]
          have hg : (ByteArray.mk sb.toArray)[m.toNat]? = some c := by
            have hlt : m.toNat < (ByteArray.mk sb.toArray).size := by rw [size_ba]; exact (List.getElem?_eq_some_iff.1 hcx).1
            rw [ByteArray.getElem?_lt' _ _ hlt]
            have : (ByteArray.mk sb.toArray)[m.toNat] = sb[m.toNat]'(by rw [size_ba] at hlt; exact hlt) := by
              show sb.toArray[m.toNat]'(by simpa [size_ba] using hlt) = _
              simp
            rw [this, (List.getElem?_eq_some_iff.1 hcx).2]
          simp [Instr.index, asIntOf, run_underlying hu, h0, hg]
        · cases hev
      · cases hev
    · rename_i len e hu
      split at hc
      · rename_i n g hn hg
        cases hc
        refine val2 (x := x) (y := i) (fun a b e r1 r2 => ?_) hrel
        subst e
        cases a <;> cases b <;> simp only [evalPure] at hev <;> (first | cases hev | skip)
        rename_i cs k m
        split at hev
        · rename_i hcond
          obtain ⟨us, e1, q1⟩ := agg_inv r1
          have hcut := cut_rel q1 (m.toNat * n) n
          refine ⟨_, mkVal_rel hev hcut, lift _ (fun w' => rfl) (fun w' _ => ?_)⟩
          have hlen := mkVal_len hev
          rw [hcut.1] at hlen
          rw [e1, int_inv r2]
          cases g with
          | true =>
            simp [Instr.index, asIntOf, run_underlying hu, hcond, part, run_isAgg hg, run_sizeOf' hn, mkC]
            apply Array.ext'
            rw [extract_list]; simp
          | false =>
            simp only [Bool.false_eq_true, if_false] at hlen
            cases hl : (us.toList.drop (m.toNat * n)).take n with
            | nil => rw [hl] at hlen; simp at hlen
            | cons u us' =>
              have h0 : us[m.toNat * n]? = some u := by
                have := cut_get (us := us.toList) (off := m.toNat * n) (size := n) (j := 0) (u := u) (by rw [hl]; rfl)
                simpa using this
              simp [Instr.index, asIntOf, run_underlying hu, hcond, part, run_isAgg hg, run_sizeOf' hn, h0, mkC]
        · cases hev
      · cases hc
    · cases hc
  | load t x =>
    simp only [compPure] at hc
    split at hc
    · rename_i n g hn hg
      cases hc
      refine val1 (x := x) (fun a e r => ?_) hrel
      subst e; simp only [evalPure] at hev
      obtain ⟨u, h1, h2⟩ := loadAV_sound hi hg hn r hev
      exact ⟨u, h1, lift _ (fun w' => rfl) h2⟩
    · cases hc
  | extract x i =>
    simp only [compPure] at hc; cases hc
    refine val1 (x := x) (fun a e r => ?_) hrel
    subst e
    cases a <;> simp only [evalPure] at hev <;> (first | cases hev | skip)
    rename_i vs
    cases hp : ρ x <;> rw [hp] at r <;> (first | cases r | skip)
    rename_i us hl hh
    obtain ⟨u, h1, h2⟩ := (show RelL C vs us.toList from ⟨by simpa using hl, fun i c v hc hv => hh i c v hc (by simpa using hv)⟩).get hev
    exact ⟨u, h2, lift _ (fun w' => rfl) (fun w' _ => by rw [hp]; simp at h1; simp [Instr.extract, h1])⟩
  | lookup t m k ok =>
    simp only [compPure] at hc
    split at hc
    · rename_i kt et hu
      have fin : ∀ (e : EK) (z : AV) (d : TypeDesc), (match e with | .s => d = .string | .i => ∃ q, d = .int q | .b => d = .bool) → P.underlying kt = some d → tzeroV P et = some z → ao = .look e ok z → xs = [m, k] →
          ∃ u, Rel C v u ∧ ∀ w', Below w.heap.size w w' → (execOp ρ { oper with op := .lookup t m k ok }).run P w' = .ok (.value u) w' := by
        rintro e z d hd hk hz rfl rfl
        refine val2 (x := m) (y := k) (fun a b e r1 r2 => ?_) hrel
        subst e
        obtain ⟨u, h1, h2⟩ := look_sound hi hu hd hk hz r1 r2 hev
        exact ⟨u, h1, lift _ (fun w' => rfl) h2⟩
      split at hc
      · rename_i z hk hz; cases hc; exact fin .s z _ rfl hk hz rfl rfl
      · rename_i q z hk hz; cases hc; exact fin .i z _ ⟨q, rfl⟩ hk hz rfl rfl
      · rename_i z hk hz; cases hc; exact fin .b z _ rfl hk hz rfl rfl
      · cases hc
    · cases hc
  | makeFunc fn first caps =>
    cases fn <;> simp only [compPure] at hc <;> (first | cases hc | skip)
    rename_i f
    split at hc
    · rename_i hf
      cases hc
      simp only [evalPure, Option.some.injEq] at hev; subst hev
      have hf' : first.map ρ = #[] := by apply Array.eq_empty_of_size_eq_zero; simp [hf]
      refine ⟨_, .fn f vals (caps.map ρ) (by simpa using hrel.1) (fun i c u hc hu => hrel.2 i c u hc (by simpa using hu)), fun w' _ => ?_⟩
      simp [execOp, Instr.makeFunc, hf']
    · cases hc
  | makeInterface t x =>
    simp only [compPure] at hc
    split at hc
    · cases hc
    · rename_i d hni hu
      cases hc
      refine val1 (x := x) (fun a e r => ?_) hrel
      subst e
      simp only [evalPure, Option.some.injEq] at hev; subst hev
      refine ⟨_, .iface t a _ r, lift _ (fun w' => rfl) (fun w' _ => ?_)⟩
      simp only [Instr.makeInterface, Sem.run_bind, run_underlying hu, Result.andThen_ok]
      cases d <;> first | rfl | exact absurd rfl (hni _)
    · cases hc
  | slice t x lo hi' mx =>
    simp only [compPure] at hc
    have fin : ∀ size, (match size with | none => P.underlying t = some .string | some n => ∃ e, P.underlying t = some (.slice e) ∧ tsize P e = some n) → ao = .slc size lo.isSome hi'.isSome mx.isSome → xs = x :: (lo.toList ++ hi'.toList ++ mx.toList) →
        ∃ u, Rel C v u ∧ ∀ w', Below w.heap.size w w' → (execOp ρ { oper with op := .slice t x lo hi' mx }).run P w' = .ok (.value u) w' := by
      rintro size hsz rfl rfl
      cases vals with
      | nil => simp [RelL] at hrel
      | cons a as =>
        obtain ⟨y, us, e, r1, r2⟩ := hrel.inv_cons
        injection e with e1 e2; subst e1 e2
        simp only [evalPure] at hev
        split at hev
        · rename_i l r m hargs
          obtain ⟨l', r', m', a1, a2, a3, rfl, rfl, rfl⟩ := slcArgs_inv r2 hargs
          obtain ⟨u, h1, h2⟩ := slice_sound hsz r1 l' r' m' hev
          exact ⟨u, h1, lift _ (fun w' => rfl) (fun w' _ => by rw [a1, a2, a3]; exact h2 w')⟩
        · cases hev
    split at hc
    · rename_i hu; cases hc; exact fin none hu rfl rfl
    · rename_i e hu
      split at hc
      · rename_i n hn; cases hc; exact fin (some n) ⟨e, hu, hn⟩ rfl rfl
      · cases hc
    · cases hc
  | build t parts =>
    simp only [compPure] at hc
    split at hc
    · rename_i z pl hz hpl
      split at hc
      · rename_i qs hq
        cases hc
        simp only [evalPure] at hev
        cases hb : bldAV z qs vals with
        | none => simp [hb] at hev
        | some as =>
          simp only [hb, Option.map_some, Option.some.injEq] at hev; subst hev
          obtain ⟨cells, h1, h2⟩ := build_sound hz hpl hq (ρ := ρ) (by simpa [List.map_map, Function.comp_def] using hrel) hb
          exact ⟨_, .agg as cells (by simpa using h1.1) (fun i c u hc hu => h1.2 i c u hc (by simpa using hu)), lift _ (fun w' => rfl) (fun w' _ => h2 w')⟩
      · cases hc
    · cases hc
  | nilCheck x =>
    simp only [compPure] at hc; cases hc
    refine val1 (x := x) (fun a e r => ?_) hrel
    subst e
    cases a <;> simp only [evalPure] at hev <;> (first | cases hev | skip)
    · cases hp : ρ x <;> rw [hp] at r <;> (first | cases r | skip)
      rename_i l off b hb
      exact ⟨_, .ptr l off b hb, fun w' _ => by simp [execOp, hp]⟩
    · cases hp : ρ x <;> rw [hp] at r <;> (first | cases r | skip)
      rename_i row off b o us hc1 hr1
      exact ⟨_, .fptr row off b o us hc1 hr1, fun w' _ => by simp [execOp, hp]⟩
    · cases hp : ρ x <;> rw [hp] at r <;> (first | cases r | skip)
      rename_i l ver i off rr hb
      exact ⟨_, .eptr l ver i off rr hb, fun w' _ => by simp [execOp, hp]⟩
    · cases hp : ρ x <;> rw [hp] at r <;> (first | cases r | skip)
      rename_i f caps vs hl hh
      exact ⟨_, .fn f caps vs hl hh, fun w' _ => by simp [execOp, hp]⟩
  | call c =>
    obtain ⟨callee, args, argTypes⟩ := c
    cases callee with
    | builtin b =>
      cases b <;> simp only [compPure] at hc <;> (first | cases hc | skip)
      · split at hc
        · rename_i t x ht hx
          have et : argTypes = #[t] := by apply Array.ext'; simpa using ht
          have ex : args = #[x] := by apply Array.ext'; simpa using hx
          subst et ex
          have fin : ∀ k, LenTy P t k → ao = .len k → xs = [x] →
              ∃ u, Rel C v u ∧ ∀ w', Below w.heap.size w w' → (execOp ρ { oper with op := .call ⟨.builtin .len, #[x], #[t]⟩ }).run P w' = .ok (.value u) w' := by
            rintro k hk rfl rfl
            refine val1 (x := x) (fun a e r => ?_) hrel
            subst e; simp only [evalPure] at hev
            obtain ⟨u, h1, h2⟩ := len_sound (ty := oper.type) hi r hev hk
            exact ⟨u, h1, fun w' hw' => by simp [execOp, resolve, invoke, builtin, h2 w' hw']⟩
          split at hc
          · rename_i hu; cases hc; exact fin 0 hu rfl rfl
          · rename_i e hu; cases hc; exact fin 1 ⟨_, hu⟩ rfl rfl
          · rename_i q e hu; cases hc; exact fin 2 ⟨_, _, hu⟩ rfl rfl
          · cases hc
        · cases hc
      · split at hc
        · rename_i x y hx
          have ex : args = #[x, y] := by apply Array.ext'; simpa using hx
          subst ex
          cases hc
          refine val2 (x := x) (y := y) (fun a b e r1 r2 => ?_) hrel
          subst e; simp only [evalPure] at hev
          cases a <;> cases b <;> simp only [maxAV] at hev <;> (first | cases hev | skip)
          split at hev
          · rename_i k m k' n hk
            injection hev with hev; subst hev hk
            have e1 := int_inv r1
            have e2 := int_inv r2
            exact ⟨_, .int _ _, fun w' _ => by simp [execOp, resolve, invoke, builtin, e1, e2, Builtin.max_, Builtin.max2]⟩
          · cases hev
        · cases hc
      · split at hc
        · rename_i x y hx
          have ex : args = #[x, y] := by apply Array.ext'; simpa using hx
          subst ex
          cases hc
          refine val2 (x := x) (y := y) (fun a b e r1 r2 => ?_) hrel
          subst e; simp only [evalPure] at hev
          cases a <;> cases b <;> simp only [minAV] at hev <;> (first | cases hev | skip)
          split at hev
          · rename_i k m k' n hk
            injection hev with hev; subst hev hk
            have e1 := int_inv r1
            have e2 := int_inv r2
            exact ⟨_, .int _ _, fun w' _ => by simp [execOp, resolve, invoke, builtin, e1, e2, Builtin.min_, Builtin.min2]⟩
          · cases hev
        · cases hc
    | value f => simp [compPure] at hc
    | invoke r m => simp [compPure] at hc
  | _ => simp [compPure] at hc

end
end Go.Proofs.YtmjdgpiofhildaaDoor
