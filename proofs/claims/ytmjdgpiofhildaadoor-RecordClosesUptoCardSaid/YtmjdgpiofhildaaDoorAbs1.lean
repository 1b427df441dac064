/- Abstract values, and how they stand to the model's values: for whatever program. -/
import Derived.WalkKit
import Derived.Deep.Quiet
namespace Go.Proofs.YtmjdgpiofhildaaDoor
open Go.RowKit

/-- An abstract value. A slice is frozen (its rows, which nothing writes any more) or owned (a place of the abstract heap). -/
inductive AV where
  | bool (b : Bool)
  | int (k : IntKind) (n : Int)
  | str (s : List UInt8)
  | agg (cs : List AV)
  | tup (vs : List AV)
  | sl (rows : List (List AV))
  | tsl (rows : List (List AV))
  | nils
  | own (l ver n : Nat)
  | ptr (l off : Nat)
  | fptr (row : List AV) (off : Nat)
  | eptr (l ver i off : Nat)
  | gptr (g off : Nat)
  | nilp
  | map (l : Nat)
  | nilm
  | fn (f : FuncId) (caps : List AV)
  | nilf
  | iface (t : TypeId) (v : AV)
  | nili
  | junk
  deriving Inhabited

/-- Where an owned array lies. -/
structure RowAt where
  block : Nat
  cap : Nat
  size : Nat
  elem : TypeId

/-- What ties abstract values to a world: cells that stay as they are; the block of a place; the row of an owned array at a version. -/
structure Cx where
  im : Nat → Nat → Option Value
  bl : Nat → Option Nat
  ar : Nat → Nat → Option (Option RowAt)

def Cx.pure (im : Nat → Nat → Option Value) : Cx := ⟨im, fun _ => none, fun _ _ => none⟩

structure Cx.Le (C D : Cx) : Prop where
  im : ∀ b o v, C.im b o = some v → D.im b o = some v
  bl : ∀ l b, C.bl l = some b → D.bl l = some b
  ar : ∀ l k r, C.ar l k = some r → D.ar l k = some r

theorem Cx.Le.refl (C : Cx) : C.Le C := ⟨fun _ _ _ h => h, fun _ _ h => h, fun _ _ _ h => h⟩
theorem Cx.Le.trans {C D E : Cx} (h : C.Le D) (k : D.Le E) : C.Le E :=
  ⟨fun b o v x => k.im b o v (h.im b o v x), fun l b x => k.bl l b (h.bl l b x), fun l v r x => k.ar l v r (h.ar l v r x)⟩

/-- The places of owned things left out. -/
def Cx.frozen (C : Cx) : Cx := Cx.pure C.im
theorem Cx.Le.frozen {C D : Cx} (h : C.Le D) : C.frozen.Le D.frozen := ⟨h.im, (fun _ _ x => by cases x), (fun _ _ _ x => by cases x)⟩
theorem Cx.frozen_le (C : Cx) : C.frozen.Le C := ⟨fun _ _ _ h => h, (fun _ _ x => by cases x), (fun _ _ _ x => by cases x)⟩

/-- The cells of rows of one width, lying one behind the other from offset o of block b on, and staying as they are. -/
inductive Rel : Cx → AV → Value → Prop
  | bool {C} (b : Bool) : Rel C (.bool b) (.bool b)
  | int {C} (k : IntKind) (n : Int) : Rel C (.int k n) (.int k n)
  | str {C} (s : List UInt8) : Rel C (.str s) (.string ⟨s.toArray⟩)
  | agg {C} (cs : List AV) (vs : Array Value) (hl : cs.length = vs.size) (h : ∀ (i : Nat) c v, cs[i]? = some c → vs[i]? = some v → Rel C c v) : Rel C (.agg cs) (.agg vs)
  | tup {C} (cs : List AV) (vs : Array Value) (hl : cs.length = vs.size) (h : ∀ (i : Nat) c v, cs[i]? = some c → vs[i]? = some v → Rel C c v) : Rel C (.tup cs) (.tuple vs)
  | slnil {C} : Rel C (.sl []) (.slice none 0 0)
  | slz {C} (a : Addr) (cap : Nat) : Rel C (.sl []) (.slice (some a) 0 cap)
  | sl {C : Cx} (rows : List (List AV)) (b o cap size : Nat) (us : Nat → Nat → Value) (hcap : rows.length ≤ cap)
      (hsz : ∀ (i : Nat) row, rows[i]? = some row → row.length = size)
      (hc : ∀ (i : Nat) row (j : Nat) c, rows[i]? = some row → row[j]? = some c → C.im b (o + i * size + j) = some (us i j))
      (hr : ∀ (i : Nat) row (j : Nat) c, rows[i]? = some row → row[j]? = some c → Rel (Cx.pure C.im) c (us i j)) : Rel C (.sl rows) (.slice (some ⟨b, o, none⟩) rows.length cap)
  | tsl {C : Cx} (rows : List (List AV)) (b o size : Nat) (us : Nat → Nat → Value)
      (hsz : ∀ (i : Nat) row, rows[i]? = some row → row.length = size)
      (hc : ∀ (i : Nat) row (j : Nat) c, rows[i]? = some row → row[j]? = some c → C.im b (o + i * size + j) = some (us i j))
      (hr : ∀ (i : Nat) row (j : Nat) c, rows[i]? = some row → row[j]? = some c → Rel (Cx.pure C.im) c (us i j)) : Rel C (.tsl rows) (.slice (some ⟨b, o, none⟩) rows.length rows.length)
  | tslnil {C} : Rel C (.tsl []) (.slice none 0 0)
  | tslz {C} (a : Addr) : Rel C (.tsl []) (.slice (some a) 0 0)
  | nils {C} : Rel C .nils (.slice none 0 0)
  | ownnil {C : Cx} (l ver : Nat) (h : C.ar l ver = some none) : Rel C (.own l ver 0) (.slice none 0 0)
  | own {C : Cx} (l ver n : Nat) (r : RowAt) (h : C.ar l ver = some (some r)) (hn : n ≤ r.cap) : Rel C (.own l ver n) (.slice (some ⟨r.block, 0, none⟩) n r.cap)
  | ptr {C : Cx} (l off b : Nat) (h : C.bl l = some b) : Rel C (.ptr l off) (.pointer (some ⟨b, off, none⟩))
  | fptr {C : Cx} (row : List AV) (off b o : Nat) (us : Nat → Value) (hc : ∀ (j : Nat) c, row[j]? = some c → C.im b (o + j) = some (us j))
      (hr : ∀ (j : Nat) c, row[j]? = some c → Rel (Cx.pure C.im) c (us j)) : Rel C (.fptr row off) (.pointer (some ⟨b, o + off, none⟩))
  | eptr {C : Cx} (l ver i off : Nat) (r : RowAt) (h : C.ar l ver = some (some r)) : Rel C (.eptr l ver i off) (.pointer (some ⟨r.block, i * r.size + off, none⟩))
  | gptr {C} (g off : Nat) : Rel C (.gptr g off) (.pointer (some ⟨g, off, none⟩))
  | nilp {C} : Rel C .nilp (.pointer none)
  | map {C : Cx} (l b : Nat) (h : C.bl l = some b) : Rel C (.map l) (.map (some b))
  | nilm {C} : Rel C .nilm (.map none)
  | fn {C} (f : FuncId) (caps : List AV) (vs : Array Value) (hl : caps.length = vs.size) (h : ∀ (i : Nat) c v, caps[i]? = some c → vs[i]? = some v → Rel C c v) : Rel C (.fn f caps) (.func (.func f) #[] vs)
  | nilf {C} : Rel C .nilf .nilFunc
  | iface {C} (t : TypeId) (a : AV) (v : Value) (h : Rel C a v) : Rel C (.iface t a) (.iface t v)
  | nili {C} : Rel C .nili .nilIface
  | junk {C} (v : Value) : Rel C .junk v

theorem Rel.mono {C D : Cx} {a : AV} {v : Value} (h : Rel C a v) (hl : C.Le D) : Rel D a v := by
  induction h generalizing D with
  | bool b => exact .bool b
  | int k n => exact .int k n
  | str s => exact .str s
  | agg cs vs hs _ ih => exact .agg cs vs hs fun i c v hc hv => ih i c v hc hv hl
  | tup cs vs hs _ ih => exact .tup cs vs hs fun i c v hc hv => ih i c v hc hv hl
  | slnil => exact .slnil
  | slz a cap => exact .slz a cap
  | sl rows b o cap size us hcap hsz hc _ ih =>
    exact .sl rows b o cap size us hcap hsz (fun i row j c h1 h2 => hl.im _ _ _ (hc i row j c h1 h2)) (fun i row j c h1 h2 => ih i row j c h1 h2 ⟨hl.im, (fun _ _ x => by cases x), (fun _ _ _ x => by cases x)⟩)
  | tsl rows b o size us hsz hc _ ih =>
    exact .tsl rows b o size us hsz (fun i row j c h1 h2 => hl.im _ _ _ (hc i row j c h1 h2)) (fun i row j c h1 h2 => ih i row j c h1 h2 ⟨hl.im, (fun _ _ x => by cases x), (fun _ _ _ x => by cases x)⟩)
  | tslnil => exact .tslnil
  | tslz a => exact .tslz a
  | nils => exact .nils
  | ownnil l ver h => exact .ownnil l ver (hl.ar _ _ _ h)
  | own l ver n r h hn => exact .own l ver n r (hl.ar _ _ _ h) hn
  | ptr l off b h => exact .ptr l off b (hl.bl _ _ h)
  | fptr row off b o us hc _ ih =>
    exact .fptr row off b o us (fun j c h1 => hl.im _ _ _ (hc j c h1)) (fun j c h1 => ih j c h1 ⟨hl.im, (fun _ _ x => by cases x), (fun _ _ _ x => by cases x)⟩)
  | eptr l ver i off r h => exact .eptr l ver i off r (hl.ar _ _ _ h)
  | gptr g off => exact .gptr g off
  | nilp => exact .nilp
  | map l b h => exact .map l b (hl.bl _ _ h)
  | nilm => exact .nilm
  | fn f caps vs hs _ ih => exact .fn f caps vs hs fun i c v hc hv => ih i c v hc hv hl
  | nilf => exact .nilf
  | iface t a v _ ih => exact .iface t a v (ih hl)
  | nili => exact .nili
  | junk v => exact .junk v

/-- Cell by cell. -/
def RelL (C : Cx) (cs : List AV) (vs : List Value) : Prop := cs.length = vs.length ∧ ∀ (i : Nat) c v, cs[i]? = some c → vs[i]? = some v → Rel C c v

theorem RelL.mono {C D : Cx} {cs : List AV} {vs : List Value} (h : RelL C cs vs) (hl : C.Le D) : RelL D cs vs := ⟨h.1, fun i c v hc hv => (h.2 i c v hc hv).mono hl⟩
theorem RelL.nil {C : Cx} : RelL C [] [] := ⟨rfl, fun i c v hc => by simp at hc⟩
theorem RelL.cons {C : Cx} {a : AV} {v : Value} {cs : List AV} {vs : List Value} (h : Rel C a v) (k : RelL C cs vs) : RelL C (a :: cs) (v :: vs) := by
  refine ⟨by simp [k.1], fun i c u hc hu => ?_⟩
  cases i with
  | zero => simp at hc hu; subst hc hu; exact h
  | succ i => simp at hc hu; exact k.2 i c u hc hu
theorem RelL.inv_cons {C : Cx} {a : AV} {cs : List AV} {vs : List Value} (h : RelL C (a :: cs) vs) : ∃ v us, vs = v :: us ∧ Rel C a v ∧ RelL C cs us := by
  cases vs with
  | nil => simp [RelL] at h
  | cons v us =>
    refine ⟨v, us, rfl, h.2 0 a v rfl rfl, ?_, fun i c u hc hu => h.2 (i + 1) c u (by simpa using hc) (by simpa using hu)⟩
    have := h.1; simp at this; exact this
theorem RelL.inv_nil {C : Cx} {vs : List Value} (h : RelL C [] vs) : vs = [] := by
  cases vs with
  | nil => rfl
  | cons v us => simp [RelL] at h
theorem RelL.append {C : Cx} {cs ds : List AV} {vs us : List Value} (h : RelL C cs vs) (k : RelL C ds us) : RelL C (cs ++ ds) (vs ++ us) := by
  refine ⟨by simp [h.1, k.1], fun i c u hc hu => ?_⟩
  by_cases hi : i < cs.length
  · rw [List.getElem?_append_left hi] at hc
    rw [List.getElem?_append_left (by rw [← h.1]; exact hi)] at hu
    exact h.2 i c u hc hu
  · rw [List.getElem?_append_right (by omega)] at hc
    rw [List.getElem?_append_right (by rw [← h.1]; omega), ← h.1] at hu
    exact k.2 _ c u hc hu
theorem RelL.take {C : Cx} {cs : List AV} {vs : List Value} (h : RelL C cs vs) (n : Nat) : RelL C (cs.take n) (vs.take n) := by
  refine ⟨by simp [h.1], fun i c u hc hu => ?_⟩
  rw [List.getElem?_take] at hc hu
  split at hc
  · rename_i hi; rw [if_pos hi] at hu; exact h.2 i c u hc hu
  · cases hc
theorem RelL.drop {C : Cx} {cs : List AV} {vs : List Value} (h : RelL C cs vs) (n : Nat) : RelL C (cs.drop n) (vs.drop n) := by
  refine ⟨by simp [h.1], fun i c u hc hu => ?_⟩
  rw [List.getElem?_drop] at hc hu
  exact h.2 _ c u hc hu
theorem RelL.get {C : Cx} {cs : List AV} {vs : List Value} (h : RelL C cs vs) {i : Nat} {c : AV} (hc : cs[i]? = some c) : ∃ v, vs[i]? = some v ∧ Rel C c v := by
  have hi : i < vs.length := by rw [← h.1]; exact (List.getElem?_eq_some_iff.1 hc).1
  exact ⟨vs[i], by simp [hi], h.2 i c _ hc (by simp [hi])⟩
theorem RelL.set {C : Cx} {cs : List AV} {vs : List Value} (h : RelL C cs vs) (i : Nat) {a : AV} {v : Value} (k : Rel C a v) : RelL C (cs.set i a) (vs.set i v) := by
  refine ⟨by simp [h.1], fun j c u hc hu => ?_⟩
  rw [List.getElem?_set] at hc hu
  have := h.1
  by_cases e : i = j
  · subst e
    simp only [if_true] at hc hu
    by_cases hi : i < cs.length
    · rw [if_pos hi] at hc; rw [if_pos (by omega)] at hu
      injection hc with hc; injection hu with hu; subst hc hu; exact k
    · rw [if_neg hi] at hc; cases hc
  · rw [if_neg e] at hc hu; exact h.2 j c u hc hu

/-- The cells of a value. -/
def AV.cells : AV → List AV
  | .agg cs => cs
  | .junk => []
  | v => [v]

theorem cells_rel {C : Cx} {a : AV} {v : Value} (h : Rel C a v) (hne : a.cells ≠ []) : RelL C a.cells v.cells.toList := by
  have h0 := h
  cases h with
  | agg cs vs hl h => exact ⟨by show cs.length = vs.toList.length; simpa using hl, fun i c u hc hu => h i c u hc (by simpa [Value.cells] using hu)⟩
  | junk v => exact absurd rfl hne
  | _ => exact .cons h0 .nil

end Go.Proofs.YtmjdgpiofhildaaDoor
