/- Encodings of plain data, contracts over them; running code by contextual rewriting. -/
import Derived.Test.YtmjdgpiofhildaaDoorAbs23
namespace Go.Proofs.YtmjdgpiofhildaaDoor
open Go.RowKit Go.IntWalk

abbrev Bs := List UInt8

/-- No longer than this: what is spoken of. -/
def big : Nat := 1099511627776

/-! ### Encodings -/
structure Enc (α : Type) where
  enc : α → AV
  dec : AV → Option α
  de : ∀ x, dec (enc x) = some x
  ed : ∀ a x, dec a = some x → a = enc x

structure REnc (α : Type) where
  enc : α → List AV
  dec : List AV → Option α
  de : ∀ x, dec (enc x) = some x
  ed : ∀ a x, dec a = some x → a = enc x

def eStr : Enc Bs where
  enc := .str
  dec := fun a => match a with | .str s => some s | _ => none
  de := fun _ => rfl
  ed := fun a x h => by cases a <;> simp at h; subst h; rfl
def eInt : Enc Int where
  enc := .int .i64
  dec := fun a => match a with | .int .i64 s => some s | _ => none
  de := fun _ => rfl
  ed := fun a x h => by
    split at h
    · injection h with h; subst h; rfl
    · cases h
def eKind (k : IntKind) : Enc Int where
  enc := .int k
  dec := fun a => match a with | .int k' s => if k = k' then some s else none | _ => none
  de := fun _ => if_pos rfl
  ed := fun a x h => by
    split at h
    · split at h
      · rename_i e; injection h with h; subst h e; rfl
      · cases h
    · cases h
def eBool : Enc Bool where
  enc := .bool
  dec := fun a => match a with | .bool s => some s | _ => none
  de := fun _ => rfl
  ed := fun a x h => by cases a <;> simp at h; subst h; rfl
def eAgg {α : Type} (r : REnc α) : Enc α where
  enc := fun x => .agg (r.enc x)
  dec := fun a => match a with | .agg s => r.dec s | _ => none
  de := fun x => r.de x
  ed := fun a x h => by cases a <;> simp at h; rw [r.ed _ _ h]

def decRows {α : Type} (dec : List AV → Option α) : List (List AV) → Option (List α)
  | [] => some []
  | r :: rs => match dec r, decRows dec rs with
    | some x, some xs => some (x :: xs)
    | _, _ => none
theorem decRows_ed {α : Type} (r : REnc α) : ∀ {rows : List (List AV)} {xs : List α}, decRows r.dec rows = some xs → rows = xs.map r.enc
  | [], xs, h => by simp [decRows] at h; subst h; rfl
  | a :: rs, xs, h => by
    simp only [decRows] at h
    split at h
    · rename_i x xs' h2 h3
      injection h with h; subst h
      rw [r.ed _ x h2, decRows_ed r h3]; rfl
    · cases h
theorem decRows_de {α : Type} (r : REnc α) : ∀ (xs : List α), decRows r.dec (xs.map r.enc) = some xs
  | [] => rfl
  | x :: xs => by simp [decRows, r.de, decRows_de r xs]
def eSl {α : Type} (r : REnc α) : Enc (List α) where
  enc := fun xs => .sl (xs.map r.enc)
  dec := fun a => match a with | .sl rows => decRows r.dec rows | _ => none
  de := fun x => decRows_de r x
  ed := fun a x h => by cases a <;> simp at h; rw [decRows_ed r h]
def rOne {α : Type} (e : Enc α) : REnc α where
  enc := fun x => [e.enc x]
  dec := fun a => match a with | [x] => e.dec x | _ => none
  de := fun x => e.de x
  ed := fun a x h => by
    match a, h with
    | [y], h => rw [e.ed _ _ h]
def eTup2 {α β : Type} (a : Enc α) (b : Enc β) : Enc (α × β) where
  enc := fun x => .tup [a.enc x.1, b.enc x.2]
  dec := fun v => match v with
    | .tup [x, y] => (a.dec x).bind fun x => (b.dec y).map fun y => (x, y)
    | _ => none
  de := fun x => by simp [a.de, b.de]
  ed := fun v x h => by
    split at h
    · rename_i p q
      simp only [Option.bind_eq_some_iff, Option.map_eq_some_iff] at h
      obtain ⟨x', h1, y', h2, rfl⟩ := h
      rw [a.ed _ _ h1, b.ed _ _ h2]
    · cases h
def eTup3 {α β γ : Type} (a : Enc α) (b : Enc β) (c : Enc γ) : Enc (α × β × γ) where
  enc := fun x => .tup [a.enc x.1, b.enc x.2.1, c.enc x.2.2]
  dec := fun v => match v with
    | .tup [x, y, z] => (a.dec x).bind fun x => (b.dec y).bind fun y => (c.dec z).map fun z => (x, y, z)
    | _ => none
  de := fun x => by simp [a.de, b.de, c.de]
  ed := fun v x h => by
    split at h
    · rename_i p q r
      simp only [Option.bind_eq_some_iff, Option.map_eq_some_iff] at h
      obtain ⟨x', h1, y', h2, z', h3, rfl⟩ := h
      rw [a.ed _ _ h1, b.ed _ _ h2, c.ed _ _ h3]
    · cases h

/-! ### Contracts over plain data -/
section
variable {α β γ δ ε ρ : Type} (A : Enc α) (B : Enc β) (C : Enc γ) (D : Enc δ) (R : Enc ρ)
def F0 (r : AV) : List AV → Option AV
  | [] => some r
  | _ => none
def F1 (f : α → Option ρ) : List AV → Option AV
  | [a] => (A.dec a).bind fun x => (f x).map R.enc
  | _ => none
def F2 (f : α → β → Option ρ) : List AV → Option AV
  | [a, b] => (A.dec a).bind fun x => (B.dec b).bind fun y => (f x y).map R.enc
  | _ => none
def F3 (f : α → β → γ → Option ρ) : List AV → Option AV
  | [a, b, c] => (A.dec a).bind fun x => (B.dec b).bind fun y => (C.dec c).bind fun z => (f x y z).map R.enc
  | _ => none
def F4 (f : α → β → γ → δ → Option ρ) : List AV → Option AV
  | [a, b, c, d] => (A.dec a).bind fun x => (B.dec b).bind fun y => (C.dec c).bind fun z => (D.dec d).bind fun u => (f x y z u).map R.enc
  | _ => none
variable {A B C D R}
theorem F1_use {f : α → Option ρ} {x : α} {r : ρ} (h : f x = some r) : F1 A R f [A.enc x] = some (R.enc r) := by simp [F1, A.de, h]
theorem F2_use {f : α → β → Option ρ} {x : α} {y : β} {r : ρ} (h : f x y = some r) : F2 A B R f [A.enc x, B.enc y] = some (R.enc r) := by simp [F2, A.de, B.de, h]
theorem F3_use {f : α → β → γ → Option ρ} {x : α} {y : β} {z : γ} {r : ρ} (h : f x y z = some r) : F3 A B C R f [A.enc x, B.enc y, C.enc z] = some (R.enc r) := by simp [F3, A.de, B.de, C.de, h]
theorem F4_use {f : α → β → γ → δ → Option ρ} {x : α} {y : β} {z : γ} {u : δ} {r : ρ} (h : f x y z u = some r) : F4 A B C D R f [A.enc x, B.enc y, C.enc z, D.enc u] = some (R.enc r) := by simp [F4, A.de, B.de, C.de, D.de, h]
theorem F0_ok {Q : List AV → AV → Prop} {r : AV} (h : Q [] r) : ∀ args r', F0 r args = some r' → Q args r' := by
  intro args r' hF
  unfold F0 at hF
  split at hF
  · injection hF with hF; subst hF; exact h
  · cases hF
theorem F1_ok {Q : List AV → AV → Prop} {f : α → Option ρ} (h : ∀ x r, f x = some r → Q [A.enc x] (R.enc r)) : ∀ args r, F1 A R f args = some r → Q args r := by
  intro args r hF
  unfold F1 at hF
  split at hF
  · simp only [Option.bind_eq_some_iff, Option.map_eq_some_iff] at hF
    obtain ⟨x, h1, r', h2, rfl⟩ := hF
    rw [A.ed _ _ h1]; exact h x r' h2
  · cases hF
theorem F2_ok {Q : List AV → AV → Prop} {f : α → β → Option ρ} (h : ∀ x y r, f x y = some r → Q [A.enc x, B.enc y] (R.enc r)) : ∀ args r, F2 A B R f args = some r → Q args r := by
  intro args r hF
  unfold F2 at hF
  split at hF
  · simp only [Option.bind_eq_some_iff, Option.map_eq_some_iff] at hF
    obtain ⟨x, h1, y, h2, r', h3, rfl⟩ := hF
    rw [A.ed _ _ h1, B.ed _ _ h2]; exact h x y r' h3
  · cases hF
theorem F3_ok {Q : List AV → AV → Prop} {f : α → β → γ → Option ρ} (h : ∀ x y z r, f x y z = some r → Q [A.enc x, B.enc y, C.enc z] (R.enc r)) : ∀ args r, F3 A B C R f args = some r → Q args r := by
  intro args r hF
  unfold F3 at hF
  split at hF
  · simp only [Option.bind_eq_some_iff, Option.map_eq_some_iff] at hF
    obtain ⟨x, h1, y, h2, z, h3, r', h4, rfl⟩ := hF
    rw [A.ed _ _ h1, B.ed _ _ h2, C.ed _ _ h3]; exact h x y z r' h4
  · cases hF
theorem F4_ok {Q : List AV → AV → Prop} {f : α → β → γ → δ → Option ρ} (h : ∀ x y z u r, f x y z u = some r → Q [A.enc x, B.enc y, C.enc z, D.enc u] (R.enc r)) : ∀ args r, F4 A B C D R f args = some r → Q args r := by
  intro args r hF
  unfold F4 at hF
  split at hF
  · simp only [Option.bind_eq_some_iff, Option.map_eq_some_iff] at hF
    obtain ⟨x, h1, y, h2, z, h3, u, h5, r', h4, rfl⟩ := hF
    rw [A.ed _ _ h1, B.ed _ _ h2, C.ed _ _ h3, D.ed _ _ h5]; exact h x y z u r' h4
  · cases hF
end

theorem F1_inv {α ρ : Type} {A : Enc α} {R : Enc ρ} {f : α → Option ρ} {args : List AV} {r : AV} (h : F1 A R f args = some r) : ∃ x z, args = [A.enc x] ∧ f x = some z ∧ r = R.enc z :=
  F1_ok (Q := fun args r => ∃ x z, args = [A.enc x] ∧ f x = some z ∧ r = R.enc z) (fun x z h => ⟨x, z, rfl, h, rfl⟩) args r h
theorem F2_inv {α β ρ : Type} {A : Enc α} {B : Enc β} {R : Enc ρ} {f : α → β → Option ρ} {args : List AV} {r : AV} (h : F2 A B R f args = some r) : ∃ x y z, args = [A.enc x, B.enc y] ∧ f x y = some z ∧ r = R.enc z :=
  F2_ok (Q := fun args r => ∃ x y z, args = [A.enc x, B.enc y] ∧ f x y = some z ∧ r = R.enc z) (fun x y z h => ⟨x, y, z, rfl, h, rfl⟩) args r h

/-! ### Running code -/
section
variable {G : Gam} {s : Bool} {ks : List MK} {Q : MPost} {env fr : List (Nat × AV)} {h : Heap}

theorem bind_ite {d : Option Nat} {k : Bool} {is : List MI} {c : Prop} [Decidable c] {x y : Option (AV × Heap)} : bindM G s d k is ks Q env fr (if c then x else y) = if c then bindM G s d k is ks Q env fr x else bindM G s d k is ks Q env fr y := by split <;> rfl
theorem ite_bool {a b : MC} {t : Bool} : iteM G a b ks Q env fr h (some (.bool t)) = if t = true then goM G a ks Q env fr h else goM G b ks Q env fr h := by cases t <;> rfl
theorem ite_and {c : Prop} [Decidable c] {p q : Prop} : (if c then p else q) = ((c → p) ∧ (¬ c → q)) := by
  by_cases hc : c <;> simp [hc]
theorem map_ite {α β : Type} {c : Prop} [Decidable c] {x y : Option α} {f : α → β} : (if c then x else y).map f = if c then x.map f else y.map f := by split <;> rfl

@[simp] theorem trunc_self : trunc h.length fr h = h := by
  unfold trunc; split <;> simp
@[simp] theorem op_callv {f : FuncId} {caps args : List AV} : opV G false h .callv (some (.fn f caps :: args)) = callAV G f (args ++ caps) h := rfl
theorem op_call_gen {f : FuncId} {F : List AV → Heap → Option (AV × Heap)} {args : List AV} (hf : G f = some (.gen F)) : opV G false h (.call f) (some args) = F args h := by
  simp only [opV, Bool.false_and, Bool.false_eq_true, if_false, evalAO, AO.quiet, evalEff, callAV, hf]
theorem call_pure {f : FuncId} {F : List AV → Option AV} {args us : List AV} {r : AV} (hf : G f = some (.pure F)) (hv : viewL h args = some us) (hF : F us = some r) (ho : scalar r = true) : callAV G f args h = some (r, h) := by
  simp only [callAV, hf, hv, hF, ho, if_true]
theorem call_gen {f : FuncId} {F : List AV → Heap → Option (AV × Heap)} {args : List AV} (hf : G f = some (.gen F)) : callAV G f args h = F args h := by
  simp only [callAV, hf]

/-! Conditions of '&&' and '||' collapse into one truth value (with 'ite_congr' as a rule of congruence). -/
theorem ite_pair {α β : Type} {c : Prop} [Decidable c] {v v' : α} {h : β} : (if c then some (v, h) else some (v', h)) = some (if c then v else v', h) := by split <;> rfl
theorem ite_avbool {c : Prop} [Decidable c] {x y : Bool} : (if c then AV.bool x else AV.bool y) = AV.bool (if c then x else y) := by split <;> rfl
theorem guard_ite {want : Bool} {r : Option (AV × Heap)} {c : Prop} [Decidable c] {x y : AV} : guardV want h r (some (if c then x else y)) = if c then guardV want h r (some x) else guardV want h r (some y) := by split <;> rfl
theorem ite_or {x y : Bool} : (if On x then true else y) = (x || y) := by cases x <;> rfl
theorem ite_andb {x y : Bool} : (if On x then y else false) = (x && y) := by cases x <;> rfl
theorem ite_or' {x y : Bool} : (if On x then y else true) = (!x || y) := by cases x <;> rfl
theorem ite_andb' {x y : Bool} : (if On x then false else y) = (!x && y) := by cases x <;> rfl

/-- Comparisons, kept closed: what is known of one is rewritten as it stands. -/
def ltB (a b : Int) : Bool := decide (a < b)
def eqB (a b : Int) : Bool := decide (a = b)
theorem ltB_iff {a b : Int} : ltB a b = true ↔ a < b := by simp [ltB]
theorem ltB_not {a b : Int} : ltB a b = false ↔ b ≤ a := by simp [ltB]
theorem eqB_iff {a b : Int} : eqB a b = true ↔ a = b := by simp [eqB]
theorem eqB_not {a b : Int} : eqB a b = false ↔ ¬ a = b := by simp [eqB]
@[simp] theorem eqB_self {a : Int} : eqB a a = true := by simp [eqB]
@[simp] theorem ltB_self {a : Int} : ltB a a = false := by simp [ltB]
theorem sc_lss {k : IntKind} {a b : Int} : binAV .lss (.int k a) (.int k b) = some (.bool (ltB a b)) := by simp [binAV, intBin, ltB]
theorem sc_gtr {k : IntKind} {a b : Int} : binAV .gtr (.int k a) (.int k b) = some (.bool (ltB b a)) := by simp [binAV, intBin, ltB]
theorem sc_leq {k : IntKind} {a b : Int} : binAV .leq (.int k a) (.int k b) = some (.bool (!ltB b a)) := by
  by_cases h : b < a <;> simp [binAV, intBin, ltB, h] <;> omega
theorem sc_geq {k : IntKind} {a b : Int} : binAV .geq (.int k a) (.int k b) = some (.bool (!ltB a b)) := by
  by_cases h : a < b <;> simp [binAV, intBin, ltB, h] <;> omega
theorem sc_eql {k : IntKind} {a b : Int} : binAV .eql (.int k a) (.int k b) = some (.bool (eqB a b)) := by simp [binAV, intBin, eqB]; rfl
theorem sc_neq {k : IntKind} {a b : Int} : binAV .neq (.int k a) (.int k b) = some (.bool (!eqB a b)) := by simp [binAV, intBin, eqB]; rfl
theorem sc_add {k : IntKind} {a b : Int} : binAV .add (.int k a) (.int k b) = some (.int k (k.wrap (a + b))) := by simp [binAV, intBin]
theorem sc_sub {k : IntKind} {a b : Int} : binAV .sub (.int k a) (.int k b) = some (.int k (k.wrap (a - b))) := by simp [binAV, intBin]
theorem sc_str {op : BinOp} {a b : Bs} : binAV op (.str a) (.str b) = strBin op a b := rfl

/-! ### Asking a closure, item by item -/
open Classical in
/-- What a closure says of an item, if it says something and leaves all as it is. -/
noncomputable def ask (G : Gam) (h : Heap) (f : FuncId) (caps : List AV) (x : AV) : Option Bool :=
  if callAV G f (x :: caps) h = some (.bool true, h) then some true
  else if callAV G f (x :: caps) h = some (.bool false, h) then some false else none
theorem ask_of {f : FuncId} {caps : List AV} {x : AV} {b : Bool} (hc : callAV G f (x :: caps) h = some (.bool b, h)) : ask G h f caps x = some b := by
  unfold ask
  cases b <;> simp [hc]
theorem ask_call {f : FuncId} {caps : List AV} {x : AV} {b : Bool} (ha : ask G h f caps x = some b) : callAV G f (x :: caps) h = some (.bool b, h) := by
  unfold ask at ha
  split at ha
  · injection ha with ha; subst ha; assumption
  · split at ha
    · injection ha with ha; subst ha; assumption
    · cases ha

/-- The first that is said yes to. -/
def findA {α : Type} (p : α → Option Bool) : Nat → List α → Option Int
  | _, [] => some (-1)
  | i, x :: xs => match p x with
    | some true => some i
    | some false => findA p (i + 1) xs
    | none => none

/-- The first of which something holds. -/
def findP {α : Type} (p : α → Bool) : Nat → List α → Int
  | _, [] => -1
  | i, x :: xs => if p x then i else findP p (i + 1) xs
theorem findA_of {α β : Type} {q : β → Option Bool} {p : α → Bool} {e : α → β} : ∀ (xs : List α) (i : Nat), (∀ x ∈ xs, q (e x) = some (p x)) → findA q i (xs.map e) = some (findP p i xs)
  | [], i, _ => rfl
  | x :: xs, i, hq => by
    simp only [List.map_cons, findA, hq x (by simp), findP]
    cases p x with
    | true => rfl
    | false => exact findA_of xs (i + 1) (fun y hy => hq y (by simp [hy]))
theorem findP_nonneg {α : Type} {p : α → Bool} : ∀ (xs : List α) (i : Nat), 0 ≤ findP p i xs ↔ xs.any p = true
  | [], i => by simp [findP]
  | x :: xs, i => by
    simp only [findP, List.any_cons]
    cases hp : p x with
    | true => simp
    | false => simp [findP_nonneg xs (i + 1)]

theorem wrap1 {i : Nat} (hi : i < big) : IntKind.i64.wrap ((i : Int) + 1) = ((i + 1 : Nat) : Int) := by
  unfold big at hi; rw [i64_in _ (by omega)]; rfl
theorem drop_head {α : Type} {xs : List α} {i : Nat} (h : i < xs.length) : ∃ x, xs[i]? = some x ∧ xs.drop i = x :: xs.drop (i + 1) := ⟨xs[i], by simp [h], List.drop_eq_getElem_cons h⟩
theorem cut_all {row : List AV} {n : Nat} (h : row.length = n) : cut row 0 n = row := by subst h; simp [cut]
@[simp] theorem cut_one {v : AV} : cut [v] 0 1 = [v] := rfl
theorem drop_cons {α : Type} {xs rest : List α} {i : Nat} {x : α} (h : xs.drop i = x :: rest) : i < xs.length ∧ xs[i]? = some x ∧ xs.drop (i + 1) = rest := by
  have h1 : i < xs.length := by
    rcases Nat.lt_or_ge i xs.length with h1 | h1
    · exact h1
    · rw [List.drop_eq_nil_iff.2 h1] at h; cases h
  refine ⟨h1, ?_, by rw [← List.drop_drop, h]; rfl⟩
  have := congrArg (·[0]?) h; simpa using this
theorem drop_nil {α : Type} {xs : List α} {i : Nat} (h : xs.drop i = []) : xs.length ≤ i := by simpa using h

/-- slices.IndexFunc, slices.ContainsFunc: what they come to. -/
noncomputable def F_IndexFunc (agg : Bool) (n : Nat) (G : Gam) : List AV → Heap → Option AV
  | [.sl rows, .fn f caps], h => if rows.length ≤ big then (findA (fun row => if row.length = n then (mkVal agg n row).bind (ask G h f caps) else none) 0 rows).map (.int .i64) else none
  | _, _ => none
noncomputable def F_ContainsFunc (agg : Bool) (n : Nat) (G : Gam) : List AV → Heap → Option AV
  | [.sl rows, .fn f caps], h => if rows.length ≤ big then (findA (fun row => if row.length = n then (mkVal agg n row).bind (ask G h f caps) else none) 0 rows).map (fun i => .bool (!ltB i 0)) else none
  | _, _ => none

theorem F_IndexFunc_inv {agg : Bool} {n : Nat} {args : List AV} {r : AV} (hF : F_IndexFunc agg n G args h = some r) : ∃ rows f caps v, args = [.sl rows, .fn f caps] ∧ rows.length ≤ big ∧ findA (fun row => if row.length = n then (mkVal agg n row).bind (ask G h f caps) else none) 0 rows = some v ∧ r = .int .i64 v := by
  match args, hF with
  | [.sl rows, .fn f caps], hF =>
    simp only [F_IndexFunc] at hF
    split at hF
    · rename_i hb
      simp only [Option.map_eq_some_iff] at hF
      obtain ⟨v, hv, rfl⟩ := hF
      exact ⟨rows, f, caps, v, rfl, hb, hv, rfl⟩
    · cases hF
theorem F_ContainsFunc_inv {agg : Bool} {n : Nat} {args : List AV} {r : AV} (hF : F_ContainsFunc agg n G args h = some r) : ∃ rows f caps v, args = [.sl rows, .fn f caps] ∧ rows.length ≤ big ∧ findA (fun row => if row.length = n then (mkVal agg n row).bind (ask G h f caps) else none) 0 rows = some v ∧ r = .bool (!ltB v 0) := by
  match args, hF with
  | [.sl rows, .fn f caps], hF =>
    simp only [F_ContainsFunc] at hF
    split at hF
    · rename_i hb
      simp only [Option.map_eq_some_iff] at hF
      obtain ⟨v, hv, rfl⟩ := hF
      exact ⟨rows, f, caps, v, rfl, hb, hv, rfl⟩
    · cases hF

/-- A closure asked of each item of a list. -/
theorem contains_use {α : Type} {C f : FuncId} {agg : Bool} {n : Nat} {G0 : Gam} {caps : List AV} {xs : List α} {e : α → List AV} {val : α → AV} {p : α → Bool} (hG : G C = some (.gen (lookF (F_ContainsFunc agg n G0)))) (hb : xs.length ≤ big)
    (hv : ∀ x, mkVal agg n (e x) = some (val x) ∧ (e x).length = n) (hp : ∀ x ∈ xs, ask G0 h f caps (val x) = some (p x)) : opV G false h (.call C) (some [.sl (xs.map e), .fn f caps]) = some (.bool (xs.any p), h) := by
  rw [op_call_gen hG]
  have := findA_of (q := fun row => if row.length = n then (mkVal agg n row).bind (ask G0 h f caps) else none) (p := p) (e := e) xs 0 (fun x hx => by simp [(hv x).1, (hv x).2, hp x hx])
  have hn := findP_nonneg (p := p) xs 0
  have hl : (xs.map e).length ≤ big := by simpa using hb
  simp only [lookF, F_ContainsFunc, hl, if_true, this, Option.map_some, Option.some.injEq, Prod.mk.injEq, AV.bool.injEq, and_true]
  cases ha : xs.any p with
  | true => simp [ltB_not.2 (hn.2 ha)]
  | false =>
    have hn' : ¬ 0 ≤ findP p 0 xs := fun k => by rw [hn.1 k] at ha; cases ha
    simp [ltB_iff.2 (Int.not_le.1 hn')]
theorem index_use {α : Type} {C f : FuncId} {agg : Bool} {n : Nat} {G0 : Gam} {caps : List AV} {xs : List α} {e : α → List AV} {val : α → AV} {p : α → Bool} (hG : G C = some (.gen (lookF (F_IndexFunc agg n G0)))) (hb : xs.length ≤ big)
    (hv : ∀ x, mkVal agg n (e x) = some (val x) ∧ (e x).length = n) (hp : ∀ x ∈ xs, ask G0 h f caps (val x) = some (p x)) : opV G false h (.call C) (some [.sl (xs.map e), .fn f caps]) = some (.int .i64 (findP p 0 xs), h) := by
  rw [op_call_gen hG]
  have := findA_of (q := fun row => if row.length = n then (mkVal agg n row).bind (ask G0 h f caps) else none) (p := p) (e := e) xs 0 (fun x hx => by simp [(hv x).1, (hv x).2, hp x hx])
  have hl : (xs.map e).length ≤ big := by simpa using hb
  simp only [lookF, F_IndexFunc, hl, if_true, this, Option.map_some]

theorem op_istr {st : Bool} {s : Bs} {i : Nat} {b : UInt8} {k : IntKind} (hb : s[i]? = some b) : opV G st h .istr (some [.str s, .int k i]) = some (.int .u8 b.toNat, h) := by
  rw [opV_quiet rfl]; simp [evalPure, hb]
@[simp] theorem op_istr0 {st : Bool} {s : Bs} {b : UInt8} {k : IntKind} : opV G st h .istr (some [.str (b :: s), .int k 0]) = some (.int .u8 b.toNat, h) := op_istr (i := 0) rfl
theorem op_slc_str2 {st : Bool} {s : Bs} {a b : Nat} {k k' : IntKind} (h1 : a ≤ b) (h2 : b ≤ s.length) : opV G st h (.slc none true true false) (some [.str s, .int k a, .int k' b]) = some (.str ((s.take b).drop a), h) := by
  rw [opV_quiet rfl]
  have h1' : (a : Int) ≤ b := by omega
  have h2' : (b : Int) ≤ s.length := by omega
  simp [evalPure, slcArgs, slc1, slcAV, slcStr, h1', h2', h1, h2]

attribute [simp] ite_pair ite_avbool guard_ite ite_or ite_andb ite_or' ite_andb'
attribute [simp] junkAll lowFr low lowL lowH lowB strBin unAV sc_lss sc_gtr sc_leq sc_geq sc_eql sc_neq sc_add sc_sub sc_str lenAV pureQ resAV resL resOne view viewL loadAV
end
end Go.Proofs.YtmjdgpiofhildaaDoor
