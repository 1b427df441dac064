/- The shelf's contracts, turned to this language: Split, Repeat, Sort and Compact of strings. Loops over functions, in proofs over the small language. -/
import Derived.Test.YtmjdgpiofhildaaGreatDoorAm9
import Derived.Shelf.Strings.Split
import Derived.Shelf.Sort.Plain
import Derived.Lib.Repeat
import Derived.Lib.SlicesCompact
namespace Go.Proofs.YtmjdgpiofhildaaGreatDoor
open Go.RowKit Go.IntWalk

def rStr : REnc Bs := rOne eStr
@[simp] theorem rStr_enc (s : Bs) : rStr.enc s = [.str s] := rfl

/-! ### Split -/
/-- The pieces between the places of a letter. -/
def splitBy (c : UInt8) : Bs → List Bs
  | [] => [[]]
  | b :: r => if b = c then [] :: splitBy c r else match splitBy c r with
    | p :: ps => (b :: p) :: ps
    | [] => [[b]]
theorem splitBy_ne (c : UInt8) : ∀ s, splitBy c s ≠ []
  | [] => by simp [splitBy]
  | b :: r => by
    unfold splitBy; split
    · simp
    · split <;> simp
theorem splitK_eq (c : UInt8) : ∀ s : Bs, Lib.splitK [c] 0 (Lib.count s [c]) s = splitBy c s
  | [] => by simp [Lib.count_one, Lib.splitK, splitBy]
  | b :: r => by
    have ih := splitK_eq c r
    by_cases h : b = c
    · subst h
      have hix : Lib.index (b :: r) [b] = 0 := by rw [Lib.index_one]; simp [Lib.indexByte]
      rw [Lib.count_cons_eq, Nat.add_comm 1]
      simp only [Lib.splitK, hix]
      simp [ih, splitBy]
    · rw [Lib.count_cons_ne b c r h]
      have hix : Lib.index (b :: r) [c] = if Lib.index r [c] == -1 then -1 else Lib.index r [c] + 1 := by
        rw [Lib.index_one, Lib.index_one]; simp [Lib.indexByte, h]
      simp only [splitBy, h, if_false]
      cases hk : Lib.count r [c] with
      | zero =>
        rw [hk] at ih
        simp only [Lib.splitK] at ih ⊢
        rw [← ih]
      | succ k =>
        rw [hk] at ih
        simp only [Lib.splitK] at ih ⊢
        rw [hix]
        by_cases hm : Lib.index r [c] = -1
        · simp only [hm, BEq.rfl, if_true] at ih ⊢
          rw [← ih]
        · have hge := Lib.index_ge r [c]
          have hm' : (Lib.index r [c] == -1) = false := by simp [hm]
          have hm2 : (Lib.index r [c] + 1 == -1) = false := by simp; omega
          simp only [hm', Bool.false_eq_true, if_false, hm2] at ih ⊢
          rw [← ih]
          have e : (Lib.index r [c] + 1).toNat = (Lib.index r [c]).toNat + 1 := by omega
          simp [e]

/-- A function that hands back a new slice of strings, and does nothing else. -/
theorem pure_fresh {P : Program} {gv : Gv} {f : FuncId} {F : List AV → Option AV} {ty : TypeId}
    (hF : ∀ (I : Nat → Nat → Option Value) (w : World) (args : List AV) (r : AV) (vals : Array Value), Holds I w → GvHolds gv I w → RelL (Cx.pure I) args vals.toList → F args = some r →
      ∃ ss : List Bs, r = .sl (ss.map rStr.enc) ∧ Calls P f vals w fun e w' => e = .returned (.slice (some ⟨w.heap.size, 0, none⟩) ss.length ss.length) ∧ w' = w.alloc (.cells ((ss.map fun s => Value.string ⟨s.toArray⟩).toArray) ty)) : PureOK P gv f F := by
  intro I w args r vals hI hgl hr hF'
  obtain ⟨ss, rfl, hc⟩ := hF I w args r vals hI hgl hr hF'
  refine hc.mono fun e w' hk => ?_
  obtain ⟨rfl, rfl⟩ := hk
  have hnew : (w.alloc (.cells ((ss.map fun s => Value.string ⟨s.toArray⟩).toArray) ty)).heap[w.heap.size]? = some (.cells ((ss.map fun s => Value.string ⟨s.toArray⟩).toArray) ty (0, 0)) := heap_alloc_new w _
  have hlt : ∀ b o u, I b o = some u → b < w.heap.size := fun b o u hu => cell_lt (hI.cell b o u hu)
  refine ⟨_, fun b o => if b = w.heap.size then (ss[o]?).map (fun s => Value.string ⟨s.toArray⟩) else I b o, rfl, ⟨fun b o u hu => ?_, fun b o u hu hb => ?_⟩, ⟨fun b o u hu => ?_, fun b o u hu => ?_⟩, ?_, below_alloc w _⟩
  · show (if b = w.heap.size then _ else _) = _
    rw [if_neg (by have := hlt b o u hu; omega)]; exact hu
  · replace hu : (if b = w.heap.size then (ss[o]?).map (fun s => Value.string ⟨s.toArray⟩) else I b o) = some u := hu
    rw [if_neg (by omega)] at hu; exact hu
  · replace hu : (if b = w.heap.size then (ss[o]?).map (fun s => Value.string ⟨s.toArray⟩) else I b o) = some u := hu
    split at hu
    · rename_i e; subst e
      rw [cell_of_heap hnew]
      obtain ⟨s, h1, rfl⟩ := Option.map_eq_some_iff.1 hu
      simp [h1]
    · have h1 := hI.cell b o u hu
      rw [Below.cell (below_alloc w _) (p := ⟨b, o, none⟩) (cell_lt h1)]; exact h1
  · replace hu : (if b = w.heap.size then (ss[o]?).map (fun s => Value.string ⟨s.toArray⟩) else I b o) = some u := hu
    split at hu
    · obtain ⟨s, h1, rfl⟩ := Option.map_eq_some_iff.1 hu
      rfl
    · exact hI.one b o u hu
  · have hl : ss.length = (ss.map rStr.enc).length := by simp
    rw [hl]
    refine .sl _ w.heap.size 0 _ 1 (fun i _ => .string ⟨((ss[i]?).getD []).toArray⟩) (Nat.le_refl _) (fun i row h => ?_) (fun i row j c h1 h2 => ?_) (fun i row j c h1 h2 => ?_)
    · simp only [List.getElem?_map, Option.map_eq_some_iff] at h
      obtain ⟨s, _, rfl⟩ := h; rfl
    · simp only [List.getElem?_map, Option.map_eq_some_iff] at h1
      obtain ⟨s, h3, rfl⟩ := h1
      have hj : j = 0 := by cases j with
        | zero => rfl
        | succ j => simp at h2
      subst hj
      simp [Cx.pure, h3]
    · simp only [List.getElem?_map, Option.map_eq_some_iff] at h1
      obtain ⟨s, h3, rfl⟩ := h1
      have hj : j = 0 := by cases j with
        | zero => rfl
        | succ j => simp at h2
      subst hj
      simp at h2; subst h2
      simp only [h3, Option.getD_some]
      exact .str s

def F_Split : List AV → Option AV := F2 eStr eStr (eSl rStr) fun s sep => match sep with
  | [c] => if s.length < 4294967281 then some (splitBy c s) else none
  | _ => none

theorem split_pure {P : Program} {gv : Gv} {f : FuncId} {ty g : Nat} {m : Int} (hg : gv g = some [.int .i64 m])
    (hc : ∀ (s sep : ByteArray) (w : World), s.size < 4294967281 → w.cell? ⟨g, 0, none⟩ = some (.int .i64 m) → 1 ≤ sep.size →
      Calls P f #[.string s, .string sep] w fun e w' => e = .returned (.slice (some ⟨w.heap.size, 0, none⟩) (Lib.countB s sep + 1) (Lib.countB s sep + 1)) ∧ w' = w.alloc (.cells ((Lib.splitB sep 0 (Lib.countB s sep) s).map Value.string).toArray ty)) : PureOK P gv f F_Split := by
  refine pure_fresh (ty := ty) fun I w args r vals hI hgl hr hF => ?_
  obtain ⟨s, sep, ss, rfl, h, rfl⟩ := F2_inv hF
  split at h
  · rename_i c
    split at h
    · rename_i hs
      injection h with h; subst h
      refine ⟨splitBy c s, rfl, ?_⟩
      obtain ⟨v1, us1, e1, h1, hr⟩ := hr.inv_cons
      obtain ⟨v2, us2, rfl, h2, hr⟩ := hr.inv_cons
      have := hr.inv_nil; subst this
      have := str_inv h1; subst this
      have := str_inv h2; subst this
      have hv : vals = #[.string ⟨s.toArray⟩, .string ⟨[c].toArray⟩] := by apply Array.ext'; simpa using e1
      subst hv
      have hm : w.cell? ⟨g, 0, none⟩ = some (.int .i64 m) := by
        have := hgl.gl g _ hg
        cases this with
        | fptr _ _ b o us k1 k2 =>
          have e := k2 0 (.int .i64 m) rfl
          have := int_inv e
          have c0 := hI.cell _ _ _ (k1 0 (.int .i64 m) rfl)
          rw [this] at c0
          simpa using c0
      have hc' := hc ⟨s.toArray⟩ ⟨[c].toArray⟩ w (by rw [size_ba]; exact hs) hm (by rw [size_ba]; simp)
      have hall := Lib.splitB_all (⟨[c].toArray⟩ : ByteArray) (by rw [size_ba]; simp) 0 _ ⟨s.toArray⟩ rfl
      have hd : (Lib.splitB ⟨[c].toArray⟩ 0 (Lib.countB ⟨s.toArray⟩ ⟨[c].toArray⟩) ⟨s.toArray⟩).map (·.data.toList) = splitBy c s := by
        rw [Lib.splitB_data]; exact splitK_eq c s
      have hcells : (Lib.splitB ⟨[c].toArray⟩ 0 (Lib.countB ⟨s.toArray⟩ ⟨[c].toArray⟩) ⟨s.toArray⟩).map Value.string = (splitBy c s).map fun s => Value.string ⟨s.toArray⟩ := by
        rw [← hd, List.map_map]; rfl
      have hlen : (splitBy c s).length = Lib.countB ⟨s.toArray⟩ ⟨[c].toArray⟩ + 1 := by rw [← hd, List.length_map]; exact hall
      rw [hcells, ← hlen] at hc'
      exact hc'
    · cases h
  · cases h

/-! ### Repeat -/
def F_Repeat : List AV → Option AV := F2 eStr eNat eStr fun s n => if s.length * n ≤ 140737488355328 ∧ n ≤ 9223372036854775807 then some (Lib.repeatL s n) else none
theorem repeat_pure {P : Program} {gv : Gv} {f : FuncId}
    (hc : ∀ (s : ByteArray) (c : Nat) (w : World), c ≤ 9223372036854775807 → s.size * c ≤ 140737488355328 → Calls P f #[.string s, .int .i64 c] w fun e w' => e = .returned (.string ⟨(Lib.repeatL s.data.toList c).toArray⟩) ∧ Below w.heap.size w w') : PureOK P gv f F_Repeat := by
  intro I w args r vals hI hgl hr hF
  obtain ⟨s, n, t, rfl, h, rfl⟩ := F2_inv hF
  split at h
  · rename_i hb
    injection h with h; subst h
    obtain ⟨v1, us1, e1, h1, hr⟩ := hr.inv_cons
    obtain ⟨v2, us2, rfl, h2, hr⟩ := hr.inv_cons
    have := hr.inv_nil; subst this
    have := str_inv h1; subst this
    have := int_inv h2; subst this
    have hv : vals = #[.string ⟨s.toArray⟩, .int .i64 n] := by apply Array.ext'; simpa using e1
    subst hv
    refine (hc ⟨s.toArray⟩ n w hb.2 (by rw [size_ba]; exact hb.1)).mono fun e w' hk => ?_
    obtain ⟨rfl, hbel⟩ := hk
    exact ⟨_, I, rfl, ⟨fun _ _ _ h => h, fun _ _ _ h _ => h⟩, ⟨fun b o u hu => by rw [Below.cell hbel (p := ⟨b, o, none⟩) (cell_lt (hI.cell b o u hu))]; exact hI.cell b o u hu, hI.one⟩, .str _, hbel⟩
  · cases h


/-! ### Sort and Compact, of an owned array of strings -/
theorem heap_putRow (w : World) (b : Nat) (d : Array Bs) (k : Nat) : (Go.Sort.putRow Go.Proofs.encStr w b 0 d).heap[k]? = if b = k then (w.heap[k]?).map (Go.Sort.onCells (Go.Sort.putCells Go.Proofs.encStr 0 d)) else w.heap[k]? := by
  simp only [Go.Sort.putRow, Go.Sort.mapBlock]
  rw [Array.getElem?_modify]

theorem strs_flat (xs : List Bs) : (xs.map rStr.enc).flatten = xs.map .str := by
  induction xs with
  | nil => rfl
  | cons x xs ih => simp [ih]

/-- An owned array of strings gets other strings. -/
theorem turn_strs {B : Base} {C : Cx} {h : Heap} {w w' : World} (hi : Inv B C h w) {l ver : Nat} {xs ys : List Bs} {r : RowAt} (hl : h[l]? = some (.arr 1 ver (xs.map rStr.enc) true)) (har : C.ar l ver = some (some r)) (hlen : ys.length = xs.length)
    (hos : w'.os = w.os) (ht : w'.tape = w.tape) (ho : w'.output = w.output) {os : Array Obj} (hh : w'.heap = (Go.Sort.putRow Go.Proofs.encStr w r.block 0 ys.toArray).heap ++ os) :
    Inv B C (h.set l (.arr 1 ver (ys.map rStr.enc) true)) w' ∧ Keep B w w' := by
  have hsize : (Go.Sort.putRow Go.Proofs.encStr w r.block 0 ys.toArray).heap.size = w.heap.size := by simp
  have hget : ∀ k, k < w.heap.size → w'.heap[k]? = if r.block = k then (w.heap[k]?).map (Go.Sort.onCells (Go.Sort.putCells Go.Proofs.encStr 0 ys.toArray)) else w.heap[k]? := fun k hk => by
    rw [hh, Array.getElem?_append_left (by rw [hsize]; exact hk), heap_putRow]
  have hle : w.heap.size ≤ w'.heap.size := by rw [hh, Array.size_append, hsize]; omega
  rcases hi.ok l _ hl with ⟨k1, _⟩ | ⟨r', cur, k1, k2, k3, k4, k5, k6, k7, k8, k8', k9, k10, k11, k12⟩
  · rw [har] at k1; cases k1
  rw [har] at k1; injection k1 with k1; injection k1 with k1; subst k1
  have hb : r.block < w.heap.size := heap_lt k6
  have hnew : w'.heap[r.block]? = some (.cells (Go.Sort.putCells Go.Proofs.encStr 0 ys.toArray cur) r.elem (0, 0)) := by
    rw [hget _ hb, if_pos rfl, k6]; rfl
  have hoth : ∀ k, k < w.heap.size → k ≠ r.block → w'.heap[k]? = w.heap[k]? := fun k hk hne => by rw [hget k hk, if_neg (fun e => hne e.symm)]
  refine ⟨hi.turn hl (.refl C) hle (fun b hb' hbl => ⟨hoth b hbl (fun e => hb' (by simp [blockOf, har, e])), fun _ => rfl⟩) (fun b o u hu => ?_) hi.one ?_ (fun b hb => .inl hb) hi.fr (arr_fv hi hl), ⟨⟨hos, ht, ho, hle, fun k hk => hoth k (by have := hi.hB; omega) (by omega)⟩, fun k c hk => (hoth k (heap_lt hk) (fun e => by subst e; rw [k6] at hk; cases hk)).trans hk⟩⟩
  · have hne : b ≠ r.block := fun e => by subst e; rw [k9 rfl o] at hu; cases hu
    have hc := hi.im b o u hu
    rw [World.cell?_of_block (w := w) (hoth b (cell_lt hc) hne)]; exact hc
  · simp only [List.length_map, k11, Nat.mul_one] at k3 k7 k8 k8' k10
    have hcs : ys.length ≤ cur.size := by rw [k7]; omega
    have htake : (Go.Sort.putCells Go.Proofs.encStr 0 ys.toArray cur).toList.take (ys.length * r.size) = ys.map fun s => Value.string ⟨s.toArray⟩ := by
      rw [k11, Nat.mul_one]
      apply List.ext_getElem?
      intro i
      rw [List.getElem?_take]
      split
      · rename_i hilt
        simp only [Go.Sort.putCells]
        have hic : i < cur.size := by omega
        simp [hic, hilt]
      · rename_i hilt
        symm
        rw [List.getElem?_eq_none_iff, List.length_map]; omega
    refine .inr ⟨r, _, har, k2, by simp [hlen]; exact k3, k4, fun x hx => ?_, hnew, ?_, ?_, ?_, k9, (fun e => by cases e), k11, k12.len (by simp [hlen])⟩
    · simp only [List.mem_map] at hx
      obtain ⟨s, _, rfl⟩ := hx
      simp [k11]
    · simp [Go.Sort.putCells, k7, k11]
    · rw [List.length_map, htake, strs_flat]
      refine ⟨by simp, fun i c u h1 h2 => ?_⟩
      simp only [List.getElem?_map, Option.map_eq_some_iff] at h1 h2
      obtain ⟨s, h3, rfl⟩ := h1
      obtain ⟨s', h4, rfl⟩ := h2
      rw [h3] at h4; injection h4 with h4; subst h4
      exact .str s
    · intro u hu
      rw [List.length_map, htake] at hu
      simp only [List.mem_map] at hu
      obtain ⟨s, _, rfl⟩ := hu
      rfl

/-- What the kit's contracts ask of the array. -/
theorem holds_strs {B : Base} {C : Cx} {h : Heap} {w : World} (hi : Inv B C h w) {l ver : Nat} {xs : List Bs} {r : RowAt} {wr : Bool} (hl : h[l]? = some (.arr 1 ver (xs.map rStr.enc) wr)) (har : C.ar l ver = some (some r)) : Go.Sort.Holds Go.Proofs.encStr w r.block 0 xs.toArray ∧ r.block < w.heap.size := by
  rcases hi.ok l _ hl with ⟨k1, _⟩ | ⟨r', cur, k1, k2, k3, k4, k5, k6, k7, k8, k8', k9, k10, k11, k12⟩
  · rw [har] at k1; cases k1
  rw [har] at k1; injection k1 with k1; injection k1 with k1; subst k1
  refine ⟨fun j hj => ?_, heap_lt k6⟩
  have hj' : j < xs.length := by simpa using hj
  rw [strs_flat] at k8
  obtain ⟨u, h1, h2⟩ := k8.get (i := j) (c := .str xs[j]) (by simp [hj'])
  rw [List.getElem?_take] at h1
  split at h1
  · have := str_inv h2; subst this
    refine ⟨?_, ?_⟩
    · rw [Nat.zero_add, cell_of_heap k6]
      rw [← Array.getElem?_toList, h1]
      simp [Go.Proofs.encStr, hj']
    · simp [World.frozen?, k6]
  · cases h1

def sortS (xs : List Bs) : List Bs := xs.mergeSort fun x y => decide (x ≤ y)
def decSs : List (List AV) → Option (List Bs) := decRows rStr.dec
noncomputable def F_Sort : List AV → Heap → Option (AV × Heap)
  | [.own l ver n], h => match h[l]? with
    | some (.arr 1 ver' rows true) => match decSs rows with
      | some xs => if ver = ver' ∧ n = xs.length ∧ xs.length ≤ big then some (.tup [], h.set l (.arr 1 ver ((sortS xs).map rStr.enc) true)) else none
      | none => none
    | _ => none
  | _, _ => none

theorem set_same {h : Heap} {l : Nat} {b : Blk} (hl : h[l]? = some b) : h.set l b = h := by
  apply List.ext_getElem?
  intro i
  rw [List.getElem?_set]
  split
  · rename_i e; subst e
    have := (List.getElem?_eq_some_iff.1 hl).1
    simp [this, hl]
    obtain ⟨_, h2⟩ := List.getElem?_eq_some_iff.1 hl
    exact h2.symm
  · rfl

theorem sort_gen {P : Program} {gv : Gv} {f : FuncId}
    (h1 : ∀ (blk off cap : Nat) (ss : List Bs) (w : World), Go.Sort.Holds Go.Proofs.encStr w blk off ss.toArray → blk < w.heap.size → ss.length < 4611686018427387904 →
      Calls P f #[.slice (some ⟨blk, off, none⟩) ss.length cap] w fun e w' => e = .returned (.tuple #[]) ∧ ∃ n os, w' = Go.Sort.grow (Go.Sort.putRow Go.Proofs.encStr (Go.Sort.ahead w n) blk off (ss.mergeSort fun x y => decide (x ≤ y)).toArray) os)
    (h2 : ∀ (p : Option Addr) (cap : Nat) (w : World), Calls P f #[.slice p 0 cap] w fun e w' => e = .returned (.tuple #[]) ∧ w' = w) : GenOK P gv f F_Sort := by
  intro B C h w args r h' vals hgv hi hr hF
  match args, hF with
  | [.own l ver n], hF =>
    simp only [F_Sort] at hF
    split at hF
    · rename_i ver' rows hl
      split at hF
      · rename_i xs hd
        have := decRows_ed rStr hd; subst this
        split at hF
        · rename_i hc
          obtain ⟨rfl, rfl, hbig⟩ := hc
          injection hF with hF; injection hF with e1 e2; subst e1 e2
          obtain ⟨v, us, e1, hv, hr⟩ := hr.inv_cons
          have := hr.inv_nil; subst this
          have hvals : vals = #[v] := by apply Array.ext'; simpa using e1
          subst hvals
          generalize hn : xs.length = n at hv
          cases hv with
          | ownnil _ _ har =>
            have hx : xs = [] := List.length_eq_zero_iff.1 hn
            subst hx
            refine (h2 none 0 w).mono fun e w' hk => ?_
            obtain ⟨rfl, rfl⟩ := hk
            have hs : sortS [] = [] := by simp [sortS]
            rw [hs, set_same hl]
            exact ⟨_, C, rfl, .refl C, hi, .tup [] #[] rfl (fun i c v h => by simp at h), .refl _ _⟩
          | own _ _ _ r har hcap =>
            obtain ⟨q1, q2⟩ := holds_strs hi hl har
            have hc := h1 r.block 0 r.cap xs w q1 q2 (by unfold big at hbig; omega)
            rw [hn] at hc
            refine hc.mono fun e w' hk => ?_
            obtain ⟨rfl, q, os, rfl⟩ := hk
            obtain ⟨t1, t2⟩ := turn_strs hi (ys := sortS xs) hl har (by simp [sortS]) (w' := Go.Sort.grow (Go.Sort.putRow Go.Proofs.encStr (Go.Sort.ahead w q) r.block 0 (xs.mergeSort fun x y => decide (x ≤ y)).toArray) os) rfl rfl rfl (os := os) rfl
            exact ⟨_, C, rfl, .refl C, t1, .tup [] #[] rfl (fun i c v h => by simp at h), t2⟩
        · cases hF
      · cases hF
    · cases hF

noncomputable def F_Compact : List AV → Heap → Option (AV × Heap)
  | [.own l ver n], h => match h[l]? with
    | some (.arr 1 ver' rows true) => match decSs rows with
      | some xs => if ver = ver' ∧ n = xs.length ∧ xs.length ≤ big then some (.own l ver (Lib.compact xs).length, h.set l (.arr 1 ver ((Lib.compact xs ++ List.replicate (xs.length - (Lib.compact xs).length) []).map rStr.enc) true)) else none
      | none => none
    | _ => none
  | _, _ => none

theorem compact_le (xs : List Bs) : (Lib.compact xs).length ≤ xs.length := by
  simp only [Lib.compact, Lib.compactUpTo, List.length_map]
  refine Nat.le_trans (List.length_filter_le _ _) (by simp)

theorem compact_gen {P : Program} {gv : Gv} {f : FuncId}
    (h1 : ∀ (blk off cap : Nat) (zs : List Bs) (w : World), Go.Sort.Holds Go.Proofs.encStr w blk off zs.toArray → zs.length ≤ 9223372036854775807 → zs.length ≤ cap →
      Calls P f #[.slice (some ⟨blk, off, none⟩) zs.length cap] w fun e w' => e = .returned (.slice (some ⟨blk, off, none⟩) (Lib.compact zs).length cap) ∧ ∃ q, w' = Go.Sort.putRow Go.Proofs.encStr (Go.Sort.ahead w q) blk off (Lib.compact zs ++ List.replicate (zs.length - (Lib.compact zs).length) []).toArray)
    (h2 : ∀ (a : Option Addr) (cap : Nat) (w : World), Calls P f #[.slice a 0 cap] w fun e w' => e = .returned (.slice a 0 cap) ∧ w' = w) : GenOK P gv f F_Compact := by
  intro B C h w args r h' vals hgv hi hr hF
  match args, hF with
  | [.own l ver n], hF =>
    simp only [F_Compact] at hF
    split at hF
    · rename_i ver' rows hl
      split at hF
      · rename_i xs hd
        have := decRows_ed rStr hd; subst this
        split at hF
        · rename_i hc
          obtain ⟨rfl, rfl, hbig⟩ := hc
          injection hF with hF; injection hF with e1 e2; subst e1 e2
          obtain ⟨v, us, e1, hv, hr⟩ := hr.inv_cons
          have := hr.inv_nil; subst this
          have hvals : vals = #[v] := by apply Array.ext'; simpa using e1
          subst hvals
          generalize hn : xs.length = n at hv
          cases hv with
          | ownnil _ _ har =>
            have hx : xs = [] := List.length_eq_zero_iff.1 hn
            subst hx
            refine (h2 none 0 w).mono fun e w' hk => ?_
            obtain ⟨rfl, rfl⟩ := hk
            have hs : Lib.compact ([] : List Bs) = [] := rfl
            simp only [hs, List.length_nil, Nat.sub_self, List.replicate_zero, List.append_nil, List.map_nil] at hl ⊢
            rw [set_same hl]
            exact ⟨_, C, rfl, .refl C, hi, .ownnil _ _ har, .refl _ _⟩
          | own _ _ _ r har hcap =>
            obtain ⟨q1, q2⟩ := holds_strs hi hl har
            have hc := h1 r.block 0 r.cap xs w q1 (by unfold big at hbig; omega) (by omega)
            rw [hn] at hc
            refine hc.mono fun e w' hk => ?_
            obtain ⟨rfl, q, rfl⟩ := hk
            have hle := compact_le xs
            obtain ⟨t1, t2⟩ := turn_strs hi (ys := Lib.compact xs ++ List.replicate (xs.length - (Lib.compact xs).length) []) hl har (by simp; omega) (w' := Go.Sort.putRow Go.Proofs.encStr (Go.Sort.ahead w q) r.block 0 (Lib.compact xs ++ List.replicate (xs.length - (Lib.compact xs).length) []).toArray) rfl rfl rfl (os := #[]) (by simp; rfl)
            rw [hn] at t1 t2 hle
            exact ⟨_, C, rfl, .refl C, t1, .own _ _ _ r har (by omega), t2⟩
        · cases hF
      · cases hF
    · cases hF

end Go.Proofs.YtmjdgpiofhildaaGreatDoor

namespace Go.Proofs.YtmjdgpiofhildaaGreatDoor
open Go.RowKit Go.IntWalk
section
variable {G : Gam} {ks : List MK} {Q : MPost} {env fr : List (Nat × AV)} {h : Heap}

theorem op_yld {Y : Nat → List AV → Heap → Option (AV × Heap)} {k : Nat} {args : List AV} : opV { G with y := Y } false h .callv (some (.yld k :: args)) = Y k args h := rfl
@[simp] theorem withY_fn {Y : Nat → List AV → Heap → Option (AV × Heap)} {f : FuncId} : ({ G with y := Y } : Gam).fn f = G.fn f := rfl

theorem ld_one {l : Nat} {v : AV} (hl : h[l]? = some (.cells [v])) : loadAV 1 false h (.ptr l 0) = some v := by
  simp [loadAV, hl, cut, mkVal]

/-- One round, as it is proved. -/
def rndM (G : Gam) (a b : MC) (ps : List Nat) (fr : List (Nat × AV)) (k : Nat) (args : List AV) (h : Heap) (K : MX → Heap → Prop) : Prop := roundM (wpM G a) (wpM G b) ps fr k args h K
/-- The rounds that are left. -/
def RgM (G : Gam) (F : RdF) (a b : MC) (ps : List Nat) (fr : List (Nat × AV)) (k j : Nat) (h : Heap) (Q : MX → Heap → Prop) : Prop := ∃ N, rgM F (rndM G a b ps fr k) k Q N j h

theorem go_rgf {g : At} {ps : List Nat} {a b : MC} {f : FuncId} {caps : List AV} {F : ItF} (hg : getA (getT env fr) g = some (.fn f caps)) (hF : G f = some (.iter F))
    (hq : RgM G (F caps (h ++ [.lp false .normal])) a b ps fr h.length 0 (h ++ [.lp false .normal]) (fun x h => exM G x ks Q env fr h)) : goM G (.rgf g ps a b) ks Q env fr h := by
  show wpM G _ _ env fr h
  simp only [wpM, hg, hF]
  exact hq

theorem rg_done {F : RdF} {a b : MC} {ps : List Nat} {k j : Nat} {Q : MX → Heap → Prop} {h1 : Heap} (hF : F j h = some (none, h1)) (hk : h1[k]? = some (.lp false .normal)) (hq : Q .normal (h1.set k .dead)) : RgM G F a b ps fr k j h Q := by
  refine ⟨1, ?_⟩
  simp only [rgM, hF]
  exact ⟨hk, hq⟩

theorem rg_round {F : RdF} {a b : MC} {ps : List Nat} {k j : Nat} {Q : MX → Heap → Prop} {h1 : Heap} {args : List AV} (hF : F j h = some (some args, h1))
    (hq : rndM G a b ps fr k args h1 fun x h2 => match x with
      | .normal => RgM G F a b ps fr k (j + 1) h2 Q
      | x => Q x (h2.set k .dead)) : RgM G F a b ps fr k j h Q := by
  obtain ⟨x, h', k1, k2, k3⟩ := round_at (wpM_one a) (wpM_one b) hq
  cases x with
  | normal =>
    obtain ⟨N, hN⟩ := k1
    exact ⟨N + 1, by simp only [rgM, hF]; exact k3 _ hN⟩
  | exit i => exact ⟨1, by simp only [rgM, hF]; exact k3 _ k1⟩
  | ret => exact ⟨1, by simp only [rgM, hF]; exact k3 _ k1⟩

/-- A round: the assignments, then the body. -/
def bodyQ (k : Nat) (K : MX → Heap → Prop) : MPost := fun x _ _ h => h[k]? = some (.lp true .normal) ∧ K x (h.set k (.lp false x))
def asgQ (G : Gam) (b : MC) (k : Nat) (K : MX → Heap → Prop) : MPost := fun x _ fr h => match x with
  | .normal => h[k]? = some (.lp false .normal) ∧ goM G b [] (bodyQ k K) [] fr (h.set k (.lp true .normal))
  | _ => False
theorem rnd_go {a b : MC} {ps : List Nat} {k : Nat} {args : List AV} {K : MX → Heap → Prop} (hk : h[k]? = some (.lp false .normal)) (hl : args.length = ps.length) (hq : goM G a [] (asgQ G b k K) [] (putPs ps args fr) h) : rndM G a b ps fr k args h K := by
  refine ⟨hk, hl, wpM_mono hq fun x e f h hh => ?_⟩
  cases x with
  | normal => exact hh
  | exit i => exact hh
  | ret => exact hh
end
end Go.Proofs.YtmjdgpiofhildaaGreatDoor
