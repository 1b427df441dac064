/- Operations that only look: how they are resolved, and that what the model does is what the small language says. -/
import Derived.Test.YtmjdgpiofhildaaDoorAbs3
import Derived.Laws.StructEq
import Derived.Laws.Tables
import Derived.Laws.Slices
namespace Go.Proofs.YtmjdgpiofhildaaDoor
open Go.RowKit

def ofCell : Value → Option AV
  | .bool b => some (.bool b)
  | .int k n => some (.int k n)
  | .string s => some (.str s.data.toList)
  | .pointer none => some .nilp
  | .slice none 0 0 => some .nils
  | .map none => some .nilm
  | .nilFunc => some .nilf
  | .nilIface => some .nili
  | _ => none

def ofCells : List Value → Option (List AV)
  | [] => some []
  | v :: vs => match ofCell v, ofCells vs with
    | some a, some as => some (a :: as)
    | _, _ => none

def ofValue : Value → Option AV
  | .agg cs => (ofCells cs.toList).map .agg
  | v => ofCell v

theorem ofCell_rel {C : Cx} {v : Value} {a : AV} (h : ofCell v = some a) : Rel C a v := by
  unfold ofCell at h
  split at h <;> (first | cases h | skip) <;> constructor

theorem ofCells_rel {C : Cx} : ∀ {vs : List Value} {as : List AV}, ofCells vs = some as → RelL C as vs
  | [], as, h => by simp [ofCells] at h; subst h; exact .nil
  | v :: vs, as, h => by
    simp only [ofCells] at h
    split at h
    · rename_i a as' h1 h2
      injection h with h; subst h
      exact .cons (ofCell_rel h1) (ofCells_rel h2)
    · cases h

theorem ofValue_rel {C : Cx} {v : Value} {a : AV} (h : ofValue v = some a) : Rel C a v := by
  unfold ofValue at h
  split at h
  · rename_i cs
    cases h2 : ofCells cs.toList with
    | none => simp [h2] at h
    | some as =>
      simp [h2] at h; subst h
      have := ofCells_rel (C := C) h2
      exact .agg as cs (by simpa using this.1) (fun i c u hc hu => this.2 i c u hc (by simpa using hu))
  · exact ofCell_rel h

/-- A type's zero value, as cells. -/
def tzero (P : Program) (t : TypeId) : Option (List AV) := ((P.info? t).bind (·.zero)).bind fun z => ofCells z.cells.toList
def tzeroV (P : Program) (t : TypeId) : Option AV := ((P.info? t).bind (·.zero)).bind ofValue

/-- The fields of a struct, one behind the other. -/
def flatFields (P : Program) (rec : TypeId → Option (List EK)) : List Field → Nat → Option (List EK)
  | [], _ => some []
  | f :: fs, off => if f.name = "_" ∨ f.offset ≠ off then none else match rec f.type with
    | some ks => if tsize P f.type = some ks.length then (flatFields P rec fs (off + ks.length)).map (ks ++ ·) else none
    | none => none

/-- Is a struct, or a part of one, compared cell by cell? What its cells hold. -/
def flatEq (P : Program) : Nat → TypeId → Option (List EK)
  | 0, _ => none
  | d + 1, t => match P.underlying t with
    | some .bool => some [.b]
    | some (.int _) => some [.i]
    | some .string => some [.s]
    | some (.struct fs) => if P.stoodInHeld t then none else flatFields P (flatEq P d) fs.toList 0
    | _ => none

/-- 'gv': what the package-level variables hold that are known. -/
def compAt (gv : Nat → Option (List AV)) : Operand → Option At
  | .tmp t => some (.t t)
  | .const v => (ofValue v).map .c
  | .global g => (gv g).map fun r => .c (.fptr r 0)
  | .func f => some (.c (.fn f []))

def compAts (gv : Nat → Option (List AV)) : List Operand → Option (List At)
  | [] => some []
  | x :: xs => match compAt gv x, compAts gv xs with
    | some a, some as => some (a :: as)
    | _, _ => none

def placeFn (P : Program) (t : TypeId) : Option (Nat → Option (Nat × Nat)) :=
  match P.underlying t with
  | some (.array _ e) => (P.info? e).map fun ie => fun i => some (i * ie.size, ie.size)
  | some (.struct fields) => (fields.toList.mapM (fun f => (P.info? f.type).map fun i => (f.offset, i.size))).map fun places => fun i => places.toArray[i]?
  | _ => none

def placesOf (pl : Nat → Option (Nat × Nat)) : List (Nat × Operand) → Option (List (Nat × Nat))
  | [] => some []
  | (i, _) :: r => match pl i, placesOf pl r with
    | some q, some qs => some (q :: qs)
    | _, _ => none

def compPure (P : Program) : Op → Option (AO × List Operand)
  | .move x => some (.mv, [x])
  | .assign x => some (.mv, [x])
  | .pick c a b => some (.pick, [c, a, b])
  | .binOp op t x y _ => match P.underlying t with
    | some .bool => (match op with
      | .eql => some (.eqB false, [x, y])
      | .neq => some (.eqB true, [x, y])
      | _ => none)
    | some (.int _) => some (.bin op, [x, y])
    | some .string => some (.bin op, [x, y])
    | some (.struct _) => if P.eqGuardType P.depth t = false then (match flatEq P 100 t with
      | some ks => if tsize P t = some ks.length then (match op with
        | .eql => some (.eqA false ks, [x, y])
        | .neq => some (.eqA true ks, [x, y])
        | _ => none) else none
      | none => none) else none
    | _ => none
  | .unOp op _ x => some (.un op, [x])
  | .convert s d x => match P.underlying s, P.underlying d with
    | some (.int _), some (.int k) => some (.conv k, [x])
    | some .string, some .string => some (.strid, [x])
    | _, _ => none
  | .fieldAddr s x f => match P.underlying s with
    | some (.struct fs) => (match fs[f]? with
      | some fd => (match tsize P fd.type with
        | some n => if n = 0 then none else some (.fadr fd.offset, [x])
        | none => none)
      | none => none)
    | _ => none
  | .field s x f => match P.underlying s with
    | some (.struct fs) => (match fs[f]? with
      | some fd => (match tsize P fd.type, tagg P fd.type with
        | some n, some a => some (.fld fd.offset n a, [x])
        | _, _ => none)
      | none => none)
    | _ => none
  | .indexAddr t x i => match P.underlying t with
    | some (.slice e) => (match tsize P e with
      | some n => some (.iadr n, [x, i])
      | none => none)
    | some (.array len e) => (match tsize P e with
      | some n => some (.aadr len n, [x, i])
      | none => none)
    | _ => none
  | .index t x i => match P.underlying t with
    | some .string => some (.istr, [x, i])
    | some (.array len e) => (match tsize P e, tagg P e with
      | some n, some a => some (.iarr len n a, [x, i])
      | _, _ => none)
    | _ => none
  | .load t a => match tsize P t, tagg P t with
    | some n, some g => some (.ld n g, [a])
    | _, _ => none
  | .extract x i => some (.ext i, [x])
  | .lookup t m k ok => match P.underlying t with
    | some (.map kt e) => (match P.underlying kt, tzeroV P e with
      | some .string, some z => some (.look .s ok z, [m, k])
      | some (.int _), some z => some (.look .i ok z, [m, k])
      | some .bool, some z => some (.look .b ok z, [m, k])
      | _, _ => none)
    | _ => none
  | .makeFunc (.func f) first caps => if first.size = 0 then some (.mkfn f, caps.toList) else none
  | .makeInterface t x => match P.underlying t with
    | some (.interface _) => none
    | some _ => some (.mkif t, [x])
    | none => none
  | .slice t x lo hi mx => match P.underlying t with
    | some .string => some (.slc none lo.isSome hi.isSome mx.isSome, x :: (lo.toList ++ hi.toList ++ mx.toList))
    | some (.slice e) => (match tsize P e with
      | some n => some (.slc (some n) lo.isSome hi.isSome mx.isSome, x :: (lo.toList ++ hi.toList ++ mx.toList))
      | none => none)
    | _ => none
  | .call { callee := .builtin .len, args, argTypes } => match argTypes.toList, args.toList with
    | [t], [x] => (match P.underlying t with
      | some .string => some (.len 0, [x])
      | some (.slice _) => some (.len 1, [x])
      | some (.map _ _) => some (.len 2, [x])
      | _ => none)
    | _, _ => none
  | .call { callee := .builtin .min, args, .. } => match args.toList with
    | [x, y] => some (.min, [x, y])
    | _ => none
  | .call { callee := .builtin .max, args, .. } => match args.toList with
    | [x, y] => some (.max, [x, y])
    | _ => none
  | .build t parts => match tzero P t, placeFn P t with
    | some z, some pl => (match placesOf pl parts.toList with
      | some qs => some (.bld z qs, parts.toList.map (·.2))
      | none => none)
    | _, _ => none
  | .nilCheck x => some (.nilck, [x])
  | _ => none

section
variable {P : Program} {B : Base} {C : Cx} {h : Heap} {w : World}

theorem run_eqGuard_scalar (op : BinOp) (t : TypeId) (x y : Operand) (a b : Value) (ha : a.oneCell' = true ∧ a ≠ .nilIface) (w : World) : (eqGuard op t x y a b).run P w = .ok () w := by
  cases op <;> cases a <;> simp_all [eqGuard, Value.oneCell'] 

theorem str_inv {s : List UInt8} {x : Value} (h : Rel C (.str s) x) : x = .string ⟨s.toArray⟩ := by cases h; rfl
theorem int_inv {k : IntKind} {n : Int} {x : Value} (h : Rel C (.int k n) x) : x = .int k n := by cases h; rfl
theorem bool_inv {b : Bool} {x : Value} (h : Rel C (.bool b) x) : x = .bool b := by cases h; rfl
theorem agg_inv {cs : List AV} {x : Value} (h : Rel C (.agg cs) x) : ∃ vs : Array Value, x = .agg vs ∧ RelL C cs vs.toList := by
  cases h with
  | agg _ vs hl h => exact ⟨vs, rfl, by simpa using hl, fun i c u hc hu => h i c u hc (by simpa using hu)⟩

theorem toList_ba (s : List UInt8) : (ByteArray.mk s.toArray).toList = s := by simp

theorem intBin_sound {op : BinOp} {k : IntKind} {a b : Int} {v : AV} (hop : op ≠ .shl ∧ op ≠ .shr) (h : intBin op k a b = some v) (t : TypeId) :
    ∃ u, Rel C v u ∧ ∀ w, (binOp op t (.int k a) (.int k b)).run P w = .ok u w := by
  cases op <;> simp only [intBin] at h <;> (first | cases h | skip) <;>
    first
    | exact ⟨_, .int _ _, fun w => rfl⟩
    | (refine ⟨_, .bool _, fun w => ?_⟩; simp [binOp, Op.intCmp]; done)
    | (refine ⟨_, .int _ _, fun w => ?_⟩; simp [binOp, Op.intArith, Op.intBits]; done)
    | (split at h
       · cases h
       · injection h with h; subst h; refine ⟨_, .int _ _, fun w => ?_⟩; simp [binOp, Op.intDiv, *])
    | (exact absurd rfl hop.1)
    | (exact absurd rfl hop.2)

theorem strBin_sound {op : BinOp} {a b : List UInt8} {v : AV} (h : strBin op a b = some v) (t : TypeId) :
    ∃ u, Rel C v u ∧ ∀ w, (binOp op t (.string ⟨a.toArray⟩) (.string ⟨b.toArray⟩)).run P w = .ok u w := by
  have e1 : ∀ x y : ByteArray, (BinOp.add = .add) := fun _ _ => rfl
  cases op <;> simp only [strBin] at h <;> (first | cases h | skip)
  case add =>
    split at h
    · rename_i hle
      injection h with h; subst h
      refine ⟨_, .str _, fun w => ?_⟩
      have hle' : ¬ (9223372036854775807 : Int) < ((a.length : Int) + (b.length : Int)) := by unfold strMax at hle; omega
      simp [binOp, Op.stringOp, ByteArray.size, IntKind.max, IntKind.signed, IntKind.bits, hle']
      exact ByteArray.ext (by simp)
    · cases h
  all_goals
    refine ⟨_, .bool _, fun w => ?_⟩
    simp [binOp, Op.stringOp, toList_ba]

theorem binAV_sound {op : BinOp} {a b v : AV} {x y : Value} (hx : Rel C a x) (hy : Rel C b y) (h : binAV op a b = some v) (t : TypeId) (ox oy : Operand) :
    ∃ u, Rel C v u ∧ ∀ w, (do eqGuard op t ox oy x y; binOp op t x y : Sem Value).run P w = .ok u w := by
  have fin : ∀ (hs : x.oneCell' = true ∧ x ≠ .nilIface), (∃ u, Rel C v u ∧ ∀ w, (binOp op t x y).run P w = .ok u w) → ∃ u, Rel C v u ∧ ∀ w, (do eqGuard op t ox oy x y; binOp op t x y : Sem Value).run P w = .ok u w := by
    rintro hs ⟨u, h1, h2⟩
    exact ⟨u, h1, fun w => by simp [run_eqGuard_scalar op t ox oy x y hs w, h2 w]⟩
  unfold binAV at h
  split at h
  · rename_i k a' k' b'
    have := int_inv hx; subst this
    have := int_inv hy; subst this
    refine fin ⟨rfl, by simp⟩ ?_
    split at h
    · rename_i hop
      split at h
      · cases h
      · rename_i hb
        injection h with h; subst h
        refine ⟨_, .int _ _, fun w => ?_⟩
        rcases hop with rfl | rfl <;> simp [binOp, Op.shift, hb]
    · rename_i hop
      split at h
      · rename_i hk; subst hk
        exact intBin_sound ⟨fun e => hop (.inl e), fun e => hop (.inr e)⟩ h t
      · cases h
  · rename_i a' b'
    have := str_inv hx; subst this
    have := str_inv hy; subst this
    exact fin ⟨rfl, by simp⟩ (strBin_sound h t)
  · cases h

/-! ### Aggregates, compared cell by cell -/
theorem eqCells_append : ∀ (ks ls : List EK) (as bs cs ds : List AV) (b : Bool), as.length = ks.length → bs.length = ks.length → eqCells (ks ++ ls) (as ++ cs) (bs ++ ds) = some b →
    ∃ b1, eqCells ks as bs = some b1 ∧ (b1 = false → b = false) ∧ (b1 = true → eqCells ls cs ds = some b)
  | [], ls, [], [], cs, ds, b, _, _, h => ⟨true, rfl, by simp, fun _ => h⟩
  | [], _, _ :: _, _, _, _, _, hl, _, _ => by simp at hl
  | [], _, _, _ :: _, _, _, _, _, hl, _ => by simp at hl
  | _ :: _, _, [], _, _, _, _, hl, _, _ => by simp at hl
  | _ :: _, _, _, [], _, _, _, _, hl, _ => by simp at hl
  | k :: ks, ls, a :: as, a' :: bs, cs, ds, b, hl, hl', h => by
    have ih := eqCells_append ks ls as bs cs ds b (by simpa using hl) (by simpa using hl')
    simp only [List.cons_append] at h
    cases k <;> cases a <;> cases a' <;> simp only [eqCells] at h ⊢ <;> (first | cases h | skip)
    case i.int.int k n k' n' =>
      split at h
      · rename_i hk
        simp only [if_pos hk]
        split at h
        · rename_i hn; simp only [if_pos hn]; exact ih h
        · rename_i hn; simp only [if_neg hn]; injection h with h; subst h; exact ⟨false, rfl, fun _ => rfl, by simp⟩
      · cases h
    all_goals
      split at h
      · rename_i hn; simp only [if_pos hn]; exact ih h
      · rename_i hn; simp only [if_neg hn]; injection h with h; subst h; exact ⟨false, rfl, fun _ => rfl, by simp⟩

theorem eqCells_one {k : EK} {a c : AV} {b : Bool} (h : eqCells [k] [a] [c] = some b) :
    (∃ q m n, k = .i ∧ a = .int q m ∧ c = .int q n ∧ b = (m == n)) ∨ (∃ m n, k = .s ∧ a = .str m ∧ c = .str n ∧ b = (m == n)) ∨ (∃ m n, k = .b ∧ a = .bool m ∧ c = .bool n ∧ b = (m == n)) := by
  cases k <;> cases a <;> cases c <;> simp only [eqCells] at h <;> (first | cases h | skip)
  case i.int.int k n k' n' =>
    split at h
    · rename_i hk; subst hk
      refine .inl ⟨_, _, _, rfl, rfl, rfl, ?_⟩
      split at h <;> injection h with h <;> subst h <;> simp [*]
    · cases h
  case s.str.str x y =>
    refine .inr (.inl ⟨_, _, rfl, rfl, rfl, ?_⟩)
    split at h <;> injection h with h <;> subst h <;> simp [*]
  case b.bool.bool x y =>
    refine .inr (.inr ⟨_, _, rfl, rfl, rfl, ?_⟩)
    split at h <;> injection h with h <;> subst h <;> simp [*]

theorem extract_list (xs : Array Value) (a b : Nat) : (xs.extract a b).toList = (xs.toList.drop a).take (b - a) := by
  simp [List.take_drop]

/-- One part of two aggregates. -/
def EqAt (P : Program) (C : Cx) (d : Nat) : Prop := ∀ (t : TypeId) (ks : List EK) (off : Nat) (xs ys : Array Value) (as bs : List AV) (b : Bool), flatEq P d t = some ks → tsize P t = some ks.length →
  RelL C as ((xs.toList.drop off).take ks.length) → RelL C bs ((ys.toList.drop off).take ks.length) → as.length = ks.length → bs.length = ks.length → eqCells ks as bs = some b →
  ∀ k w, (do let a ← part t xs off; let c ← part t ys off; Op.equalIn (k + d) t a c : Sem Bool).run P w = .ok b w

def EqFields (P : Program) (C : Cx) (d : Nat) : Prop := ∀ (fs : List Field) (off : Nat) (ks : List EK) (xs ys : Array Value) (as bs : List AV) (b : Bool), flatFields P (flatEq P d) fs off = some ks →
  RelL C as ((xs.toList.drop off).take ks.length) → RelL C bs ((ys.toList.drop off).take ks.length) → as.length = ks.length → bs.length = ks.length → eqCells ks as bs = some b →
  ∀ k w, (Op.eqFields (k + d) xs ys fs).run P w = .ok b w

theorem take_take_drop (l : List Value) (off m n : Nat) : ((l.drop off).take (m + n)).take m = (l.drop off).take m := by rw [List.take_take]; congr 1; omega
theorem drop_take_drop (l : List Value) (off m n : Nat) : ((l.drop off).take (m + n)).drop m = (l.drop (off + m)).take n := by
  rw [List.drop_take, List.drop_drop]; congr 1; omega

theorem eqFields_of {d : Nat} (h : EqAt P C d) : EqFields P C d := by
  intro fs
  induction fs with
  | nil =>
    intro off ks xs ys as bs b hf hx hy hla hlb hb k w
    simp [flatFields] at hf; subst hf
    simp at hla hlb; subst hla hlb
    simp [eqCells] at hb; subst hb
    simp [Op.eqFields]
  | cons f fs ih =>
    intro off ks xs ys as bs b hf hx hy hla hlb hb k w
    simp only [flatFields] at hf
    split at hf
    · cases hf
    · rename_i hn
      simp only [not_or, Decidable.not_not] at hn
      split at hf
      · rename_i k1 hk1
        split at hf
        · rename_i hs
          cases hr : flatFields P (flatEq P d) fs (off + k1.length) with
          | none => simp [hr] at hf
          | some k2 =>
            simp [hr] at hf; subst hf
            have la : as = as.take k1.length ++ as.drop k1.length := (List.take_append_drop _ _).symm
            have lb : bs = bs.take k1.length ++ bs.drop k1.length := (List.take_append_drop _ _).symm
            rw [la, lb] at hb
            simp only [List.length_append] at hla hlb hx hy
            obtain ⟨b1, e1, e2, e3⟩ := eqCells_append k1 k2 _ _ _ _ b (by simp; omega) (by simp; omega) hb
            have h1 := h f.type k1 off xs ys (as.take k1.length) (bs.take k1.length) b1 hk1 hs (by rw [← take_take_drop _ off k1.length k2.length]; exact hx.take _) (by rw [← take_take_drop _ off k1.length k2.length]; exact hy.take _) (by simp; omega) (by simp; omega) e1 k w
            have hoff := hn.2
            simp only [Sem.run_bind] at h1
            simp only [Op.eqFields, ne_eq, hn.1, not_false_eq_true, if_true, hoff, Sem.run_bind]
            generalize (part f.type xs off).run P w = r1 at h1 ⊢
            cases r1 with
            | halt _ _ => simp [Result.andThen] at h1
            | ok a w1 =>
              simp only [Result.andThen_ok] at h1 ⊢
              generalize (part f.type ys off).run P w1 = r2 at h1 ⊢
              cases r2 with
              | halt _ _ => simp [Result.andThen] at h1
              | ok c w2 =>
                simp only [Result.andThen_ok] at h1 ⊢
                rw [h1]
                cases b1 with
                | false => simp [e2 rfl]
                | true =>
                  simp only [Result.andThen_ok, Bool.not_true, Bool.false_eq_true, if_false]
                  exact ih (off + k1.length) k2 xs ys _ _ b hr (by rw [← drop_take_drop _ off k1.length k2.length]; exact hx.drop _) (by rw [← drop_take_drop _ off k1.length k2.length]; exact hy.drop _) (by simp; omega) (by simp; omega) (e3 rfl) k w
        · cases hf
      · cases hf

theorem eqAt : ∀ d, EqAt P C d
  | 0 => fun t ks off xs ys as bs b h => by simp [flatEq] at h
  | d + 1 => by
    intro t ks off xs ys as bs b h hs hx hy hla hlb hb k w
    have atom : ∀ (hn : ks.length = 1) (hagg : tagg P t = some false) (heq : ∀ (a c : AV) (x y : Value), Rel C a x → Rel C c y → eqCells ks [a] [c] = some b → (Op.equalIn (k + d + 1) t x y).run P w = .ok b w),
        (do let a ← part t xs off; let c ← part t ys off; Op.equalIn (k + (d + 1)) t a c : Sem Bool).run P w = .ok b w := by
      intro hn hagg heq
      rw [hn] at hla hlb hx hy
      match as, bs, hla, hlb with
      | [a], [c], _, _ =>
        obtain ⟨x, us, e1, r1, _⟩ := hx.inv_cons
        obtain ⟨y, vs, e2, r2, _⟩ := hy.inv_cons
        have g1 : xs[off]? = some x := by
          have := congrArg (fun l : List Value => l[0]?) e1; simpa [List.getElem?_take, List.getElem?_drop] using this
        have g2 : ys[off]? = some y := by
          have := congrArg (fun l : List Value => l[0]?) e2; simpa [List.getElem?_take, List.getElem?_drop] using this
        simp [part, run_isAgg hagg, g1, g2]
        exact heq a c x y r1 r2 hb
    simp only [flatEq] at h
    cases hu : P.underlying t with
    | none => simp [hu] at h
    | some dsc =>
      cases dsc <;> simp only [hu] at h <;> (first | cases h | skip)
      case some.bool.refl =>
        refine atom rfl (by simp [tagg, hu]) fun a c x y hx hy he => ?_
        rcases eqCells_one he with ⟨q, m, n, e, _⟩ | ⟨m, n, e, _⟩ | ⟨m, n, _, rfl, rfl, rfl⟩
        · cases e
        · cases e
        · rw [bool_inv hx, bool_inv hy, run_equalIn_bool' w (k + d) t _ _ hu]
      case some.int.refl q =>
        refine atom rfl (by simp [tagg, hu]) fun a c x y hx hy he => ?_
        rcases eqCells_one he with ⟨q, m, n, _, rfl, rfl, rfl⟩ | ⟨m, n, e, _⟩ | ⟨m, n, e, _⟩
        · rw [int_inv hx, int_inv hy, run_equalIn_int w (k + d) t _ _ _ _ hu]
        · cases e
        · cases e
      case some.string.refl =>
        refine atom rfl (by simp [tagg, hu]) fun a c x y hx hy he => ?_
        rcases eqCells_one he with ⟨q, m, n, e, _⟩ | ⟨m, n, _, rfl, rfl, rfl⟩ | ⟨m, n, e, _⟩
        · cases e
        · rw [str_inv hx, str_inv hy, run_equalIn_string w (k + d) t _ _ hu, toList_ba, toList_ba]
        · cases e
      case some.struct fs =>
        split at h
        · cases h
        · rename_i hst
          have hagg : tagg P t = some true := by simp [tagg, hu]
          have hfo : P.fieldsOf t = fs := by simp [Program.fieldsOf, hu]
          have hu' : P.underlying t = some (.struct (P.fieldsOf t)) := by rw [hfo]; exact hu
          have := run_equalIn_struct (P := P) w (k + d) t (xs.extract off (off + ks.length)) (ys.extract off (off + ks.length)) hu' (by simpa using hst)
          rw [hfo] at this
          simp only [part, Sem.run_bind, run_isAgg hagg, Result.andThen_ok, if_true, run_sizeOf' hs, Sem.run_pure]
          rw [show k + (d + 1) = k + d + 1 by omega, this]
          refine eqFields_of (eqAt d) fs.toList 0 ks _ _ as bs b h ?_ ?_ hla hlb hb k w
          · rw [extract_list, List.drop_zero, List.take_take]
            rw [Nat.add_sub_cancel_left, Nat.min_self]
            exact hx
          · rw [extract_list, List.drop_zero, List.take_take]
            rw [Nat.add_sub_cancel_left, Nat.min_self]
            exact hy

end
end Go.Proofs.YtmjdgpiofhildaaDoor
