/- Maps of plain data. -/
import Derived.Test.YtmjdgpiofhildaaDoorAbs24
namespace Go.Proofs.YtmjdgpiofhildaaDoor
open Go.RowKit Go.IntWalk

/-- A map from strings, as a list of entries. -/
def lookM {β : Type} (k : Bs) : List (Bs × β) → Option β
  | [] => none
  | (k', v) :: r => if k = k' then some v else lookM k r
def putM {β : Type} (k : Bs) (v : β) : List (Bs × β) → List (Bs × β)
  | [] => [(k, v)]
  | (k', u) :: r => if k = k' then (k', v) :: r else (k', u) :: putM k v r

theorem lookM_put {β : Type} {k k2 : Bs} {v : β} : ∀ m : List (Bs × β), lookM k (putM k2 v m) = if k = k2 then some v else lookM k m
  | [] => by simp [putM, lookM]
  | (k', u) :: r => by
    simp only [putM]
    by_cases h : k2 = k'
    · subst h
      simp only [if_true, lookM]
      by_cases h1 : k = k2 <;> simp [h1]
    · simp only [h, if_false, lookM, lookM_put r]
      by_cases h1 : k = k'
      · have : ¬ k = k2 := fun e => h (by rw [← e, h1])
        simp [h1, this]
        intro e; exact absurd e.symm h
      · simp [h1]

section
variable {β : Type} (V : Enc β)
def encM (m : List (Bs × β)) : List (AV × AV) := m.map fun p => (.str p.1, V.enc p.2)
def decM : List (AV × AV) → Option (List (Bs × β))
  | [] => some []
  | (.str k, v) :: r => match V.dec v, decM r with
    | some x, some xs => some ((k, x) :: xs)
    | _, _ => none
  | _ => none
theorem decM_de : ∀ m : List (Bs × β), decM V (encM V m) = some m
  | [] => rfl
  | (k, x) :: r => by
    have ih := decM_de r
    simp only [encM] at ih
    simp [encM, decM, V.de, ih]
theorem decM_ed : ∀ {es : List (AV × AV)} {m : List (Bs × β)}, decM V es = some m → es = encM V m
  | [], m, h => by simp [decM] at h; subst h; rfl
  | (k, v) :: r, m, h => by
    unfold decM at h
    split at h
    · rename_i e; cases e
    · rename_i k' v' r' e
      cases e
      split at h
      · rename_i x xs h1 h2
        injection h with h; subst h
        rw [V.ed _ _ h1, decM_ed h2]; rfl
      · cases h
    · cases h
variable {V}
theorem mget_enc {k : Bs} : ∀ m : List (Bs × β), mget .s (.str k) (encM V m) = some ((lookM k m).map V.enc)
  | [] => rfl
  | (k', x) :: r => by
    have ih := mget_enc (k := k) r
    simp only [encM] at ih
    simp only [encM, List.map_cons, mget, keyEq, lookM]
    by_cases h : k = k'
    · simp [h]
    · have : (k == k') = false := by simp [h]
      simp only [this, h, if_false]; exact ih
theorem mput_enc {k : Bs} {v : β} : ∀ m : List (Bs × β), mput .s (.str k) (V.enc v) (encM V m) = some (encM V (putM k v m))
  | [] => rfl
  | (k', x) :: r => by
    have ih := mput_enc (k := k) (v := v) r
    simp only [encM] at ih
    simp only [encM, List.map_cons, mput, keyEq, putM]
    by_cases h : k = k'
    · simp [h]
    · have : (k == k') = false := by simp [h]
      simp only [this, h, if_false, ih]; rfl

variable {G : Gam} {s : Bool} {h : Heap}
theorem op_look {l : Nat} {m : List (Bs × β)} {k : Bs} {zero : AV} (hl : h[l]? = some (.map (encM V m))) : opV G s h (.look .s false zero) (some [.map l, .str k]) = some (((lookM k m).map V.enc).getD zero, h) := by
  rw [opV_quiet rfl]
  simp only [evalPure, isKey, if_true, hl, mget_enc, Option.map_some]
  cases lookM k m <;> rfl
theorem op_look2 {l : Nat} {m : List (Bs × β)} {k : Bs} {zero : AV} (hl : h[l]? = some (.map (encM V m))) : opV G s h (.look .s true zero) (some [.map l, .str k]) = some (.tup [((lookM k m).map V.enc).getD zero, .bool (lookM k m).isSome], h) := by
  rw [opV_quiet rfl]
  simp only [evalPure, isKey, if_true, hl, mget_enc, Option.map_some]
  cases lookM k m <;> rfl
theorem op_mapup {l : Nat} {m : List (Bs × β)} {k : Bs} {v : β} {x : AV} (hl : h[l]? = some (.map (encM V m))) (hx : x = V.enc v) (hv : view h x = some x) (ho : owns x = []) : opV G s h (.mapup .s) (some [.map l, .str k, x]) = some (.junk, h.set l (.map (encM V (putM k v m)))) := by
  subst hx
  rw [opV_eff rfl]
  simp only [evalEff, isKey, if_true, frz, hv, Option.map_some, ho, freezeAll, hl, mput_enc]
end

section
variable {G : Gam} {s : Bool} {h : Heap}
@[simp] theorem cellsV_agg (c : List AV) : (AV.agg c).cells = c := rfl
@[simp] theorem cellsV_bool (b : Bool) : (AV.bool b).cells = [.bool b] := rfl
@[simp] theorem oneCV_bool (b : Bool) : oneC (AV.bool b) = true := rfl
@[simp] theorem cellsV_int (k : IntKind) (n : Int) : (AV.int k n).cells = [.int k n] := rfl
@[simp] theorem oneCV_int (k : IntKind) (n : Int) : oneC (AV.int k n) = true := rfl
@[simp] theorem cellsV_str (s : Bs) : (AV.str s).cells = [.str s] := rfl
@[simp] theorem oneCV_str (s : Bs) : oneC (AV.str s) = true := rfl
@[simp] theorem cellsV_sl (r : List (List AV)) : (AV.sl r).cells = [.sl r] := rfl
@[simp] theorem oneCV_sl (r : List (List AV)) : oneC (AV.sl r) = true := rfl
@[simp] theorem cellsV_tsl (r : List (List AV)) : (AV.tsl r).cells = [.tsl r] := rfl
@[simp] theorem oneCV_tsl (r : List (List AV)) : oneC (AV.tsl r) = true := rfl
@[simp] theorem cellsV_nils  : (AV.nils).cells = [.nils ] := rfl
@[simp] theorem oneCV_nils  : oneC (AV.nils) = true := rfl
@[simp] theorem cellsV_own (l v n : Nat) : (AV.own l v n).cells = [.own l v n] := rfl
@[simp] theorem oneCV_own (l v n : Nat) : oneC (AV.own l v n) = true := rfl
@[simp] theorem cellsV_map (l : Nat) : (AV.map l).cells = [.map l] := rfl
@[simp] theorem oneCV_map (l : Nat) : oneC (AV.map l) = true := rfl
@[simp] theorem cellsV_ptr (l o : Nat) : (AV.ptr l o).cells = [.ptr l o] := rfl
@[simp] theorem oneCV_ptr (l o : Nat) : oneC (AV.ptr l o) = true := rfl
@[simp] theorem cellsV_fn (f : FuncId) (c : List AV) : (AV.fn f c).cells = [.fn f c] := rfl
@[simp] theorem oneCV_fn (f : FuncId) (c : List AV) : oneC (AV.fn f c) = true := rfl
@[simp] theorem list_set_last2 {α : Type} (a b c : α) : [a, b].set 1 c = [a, c] := rfl
@[simp] theorem cut_succ {x : AV} {xs : List AV} {n k : Nat} : cut (x :: xs) (n + 1) k = cut xs n k := rfl
@[simp] theorem cut_take {x : AV} {xs : List AV} {k : Nat} : cut (x :: xs) 0 (k + 1) = x :: cut xs 0 k := rfl
@[simp] theorem cut_none {xs : List AV} {n : Nat} : cut xs n 0 = [] := by simp [cut]
@[simp] theorem mkVal_true {c : AV} {cs : List AV} {n : Nat} : mkVal true n (c :: cs) = if (c :: cs).length = n then some (.agg (c :: cs)) else none := by simp [mkVal]
attribute [simp] setAt owns ownsL freezeAll
theorem op_box {v : AV} {c : AV} {cs : List AV} (hv : v.cells = c :: cs) : opV G s h .box (some [v]) = some (.ptr h.length 0, h ++ [.cells (c :: cs)]) := by
  rw [opV_eff rfl]; simp only [evalEff, hv]
@[simp] theorem op_box_agg {c : AV} {cs : List AV} : opV G s h .box (some [.agg (c :: cs)]) = some (.ptr h.length 0, h ++ [.cells (c :: cs)]) := op_box rfl
@[simp] theorem op_box_str {x : Bs} : opV G s h .box (some [.str x]) = some (.ptr h.length 0, h ++ [.cells [.str x]]) := op_box rfl
@[simp] theorem op_box_map {l : Nat} : opV G s h .box (some [.map l]) = some (.ptr h.length 0, h ++ [.cells [.map l]]) := op_box rfl
@[simp] theorem op_box_int {k : IntKind} {n : Int} : opV G s h .box (some [.int k n]) = some (.ptr h.length 0, h ++ [.cells [.int k n]]) := op_box rfl
@[simp] theorem op_box_sl {n : List (List AV)} : opV G s h .box (some [.sl n]) = some (.ptr h.length 0, h ++ [.cells [.sl n]]) := op_box rfl
@[simp] theorem stAV_ptr {n l off : Nat} {v : AV} : stAV n h (.ptr l off) v = if v.cells.length = n ∧ 0 < n ∧ v.cells.all oneC then (match h[l]? with
      | some (.cells vs) => if off + n ≤ vs.length then some (h.set l (.cells (setAt vs off v.cells))) else none
      | _ => none) else none := rfl
/-! Owned arrays. -/
theorem rows_own {l v sz : Nat} {rows : List (List AV)} {wr : Bool} (hl : h[l]? = some (.arr sz v rows wr)) {n : Nat} (hn : n = rows.length) : rowsOf h (.own l v n) = some rows := by
  subst hn; simp [rowsOf, hl]
theorem iadr_own {l v sz size i n : Nat} {rows : List (List AV)} {wr : Bool} {k : IntKind} {row : List AV} (hl : h[l]? = some (.arr sz v rows wr)) (hn : n = rows.length) (hi : rows[i]? = some row) (hr : row.length = size) : iadrAV size h (.own l v n) (.int k i) = some (.eptr l v i 0) := by
  have hlt : i < rows.length := (List.getElem?_eq_some_iff.1 hi).1
  subst hn
  have h1 : (i : Int) < rows.length := by omega
  simp [iadrAV, hl, hi, hr, h1]
theorem ld_eptr {l v sz size i off : Nat} {agg : Bool} {rows : List (List AV)} {wr : Bool} {row : List AV} (hl : h[l]? = some (.arr sz v rows wr)) (hi : rows[i]? = some row) : loadAV size agg h (.eptr l v i off) = mkVal agg size (cut row off size) := by
  simp [loadAV, hl, hi]
theorem op_st_eptr {l v sz n i off : Nat} {rows : List (List AV)} {row : List AV} {x : AV} (hl : h[l]? = some (.arr sz v rows true)) (hi : rows[i]? = some row) (h1 : x.cells.length = n) (h2 : 0 < n) (h3 : x.cells.all oneC = true) (h4 : off + n ≤ row.length) (hv : view h x = some x) (ho : owns x = []) : opV G s h (.st n) (some [.eptr l v i off, x]) = some (.junk, h.set l (.arr sz v (rows.set i (setAt row off x.cells)) true)) := by
  rw [op_st]; simp [stAV, h1, h2, h3, frz, hv, ho, freezeAll, hl, hi, h4]
theorem op_mksl {zero : List AV} {bytes n : Nat} {k k' : IntKind} (h1 : n * bytes ≤ byteMax) (h2 : n ≤ byteMax) : opV G s h (.mksl zero bytes) (some [.int k n, .int k' n]) = some (.own h.length 0 n, h ++ [.arr zero.length 0 (List.replicate n zero) true]) := by
  rw [opV_eff rfl]; simp [evalEff, h1, h2]
theorem sizesOk_map {α : Type} {e : α → List AV} {n : Nat} (he : ∀ x, (e x).length = n) : ∀ xs : List α, sizesOk n (xs.map e) = true
  | [] => rfl
  | x :: xs => by simp [sizesOk, he, sizesOk_map he xs]
theorem op_slc_hi {w a : Nat} {rows : List (List AV)} {k : IntKind} (h1 : a ≤ rows.length) (h2 : sizesOk w rows = true) : opV G s h (.slc (some w) false true false) (some [.sl rows, .int k a]) = some (.sl (rows.take a), h) := by
  rw [opV_quiet rfl]
  have h1' : (a : Int) ≤ rows.length := by omega
  simp [evalPure, slcArgs, slc1, slcAV, slcRows, h1, h2]
/-- An append of one item to a list that was begun with nothing. -/
theorem op_app1 {α : Type} {e : α → List AV} {n b l : Nat} {os : List α} {x : α} (hl : h[l]? = some (.arr n os.length (os.map e) true)) (hs : (e x).length = n) (hb : b ≤ 64) (ho : os.length < big) :
    opV G s h (.app false n b) (some [.own l os.length os.length, .tsl [e x]]) = some (.own l (os ++ [x]).length (os ++ [x]).length, h.set l (.arr n (os ++ [x]).length ((os ++ [x]).map e) true)) := by
  have hbig : (os.length + 1) * b ≤ byteMax := by
    have : (os.length + 1) * b ≤ big * 64 := Nat.mul_le_mul (by omega) hb
    unfold byteMax; unfold big at this ho; omega
  have := op_app (G := G) (s := s) (h := h) (n := n) (b := b) (l := l) (ver := os.length) (k := os.length) (x := .tsl [e x]) (new := [e x]) (rows := os.map e) rfl hl (by simp) (by simp [sizesOk, hs]) (by simp) (by simpa using hbig) (by unfold big at ho; unfold byteMax; simp; omega)
  simpa using this
end

/-- A number that is not negative. -/
def eNat : Enc Nat where
  enc := fun n => .int .i64 n
  dec := fun a => match a with | .int .i64 s => if 0 ≤ s then some s.toNat else none | _ => none
  de := fun n => by simp
  ed := fun a x h => by
    split at h
    · split at h
      · injection h with h; subst h; rename_i s hs; congr 1; omega
      · cases h
    · cases h
@[simp] theorem eNat_enc (n : Nat) : eNat.enc n = .int .i64 n := rfl
@[simp] theorem eStr_enc (n : Bs) : eStr.enc n = .str n := rfl
@[simp] theorem eInt_enc (n : Int) : eInt.enc n = .int .i64 n := rfl
@[simp] theorem eKind_enc (k : IntKind) (n : Int) : (eKind k).enc n = .int k n := rfl
@[simp] theorem eBool_enc (n : Bool) : eBool.enc n = .bool n := rfl
@[simp] theorem eTup2_enc {α β : Type} (a : Enc α) (b : Enc β) (x : α × β) : (eTup2 a b).enc x = .tup [a.enc x.1, b.enc x.2] := rfl
@[simp] theorem eTup3_enc {α β γ : Type} (a : Enc α) (b : Enc β) (c : Enc γ) (x : α × β × γ) : (eTup3 a b c).enc x = .tup [a.enc x.1, b.enc x.2.1, c.enc x.2.2] := rfl
def rBool : REnc Bool := rOne eBool
def rInt : REnc Int := rOne eInt
end Go.Proofs.YtmjdgpiofhildaaDoor
