/- Small laws on cells and numbers. strings.Builder: the check that it was not copied, WriteString, WriteByte, String: what they do to a builder of the caller's. Library functions that keep to themselves: strconv.Itoa, strconv.Atoi, strings.Cut, strings.IndexByte. digest.Hex: a digest in hexadecimal digits; its closure. digest.Hex walked. -/
import Derived.Test.YtmjdgpiofhildaaGreatDoorAm10
import Derived.Test.YtmjdgpiofhildaaGreatDoorRmE
import Derived.Test.YtmjdgpiofhildaaGreatDoorRecOk
import Derived.Lib.AtoiErrMem
import Derived.Lib.AtoiAll
import Derived.Lib.LaidTab
import Derived.Shelf.Strconv.Itoa3
namespace Go.Proofs.YtmjdgpiofhildaaGreatDoor
open Go.RowKit Go.IntWalk
@[simp] theorem bin_mulI {a b : Int} : binAV .mul (.int .i64 a) (.int .i64 b) = some (.int .i64 (IntKind.i64.wrap (a * b))) := rfl
theorem i64_small {n : Int} (h0 : 0 ≤ n) (h1 : n < 1000) : IntKind.i64.wrap n = n := i64_in _ ⟨by omega, by omega⟩
theorem set_here {h : Heap} {l : Nat} {b : Blk} (hl : h[l]? = some b) : h.set l b = h := by
  apply List.ext_getElem?
  intro j
  rw [List.getElem?_set]
  by_cases e : l = j
  · subst e
    rw [if_pos rfl, if_pos (List.getElem?_eq_some_iff.1 hl).1, hl]
  · rw [if_neg e]
section
variable {G : Gam} {s : Bool} {h : Heap}
theorem cut_at {vs : List AV} {off : Nat} {v : AV} (hv : vs[off]? = some v) : cut vs off 1 = [v] := by
  obtain ⟨ho, rfl⟩ := List.getElem?_eq_some_iff.1 hv
  unfold cut
  rw [List.drop_eq_getElem_cons ho]
  rfl
theorem ld_cell {l off : Nat} {vs : List AV} {v : AV} (hl : h[l]? = some (.cells vs)) (hv : vs[off]? = some v) : loadAV 1 false h (.ptr l off) = some v := by
  simp [loadAV, hl, cut_at hv, mkVal]
@[simp] theorem op_nilck_ptr {l off : Nat} : opV G s h .nilck (some [.ptr l off]) = some (.ptr l off, h) := by rw [opV_quiet rfl]; rfl
end
/-! ### Words -/
def xo (a b : Int) : Int := IntKind.u64.wrap (BitVec.ofInt 64 a ^^^ BitVec.ofInt 64 b).toNat
def an (a b : Int) : Int := IntKind.u64.wrap (BitVec.ofInt 64 a &&& BitVec.ofInt 64 b).toNat
def oo (a b : Int) : Int := IntKind.u64.wrap (BitVec.ofInt 64 a ||| BitVec.ofInt 64 b).toNat
def nt (a : Int) : Int := IntKind.u64.wrap (BitVec.ofInt 64 IntKind.u64.max ^^^ BitVec.ofInt 64 a).toNat
def sl (a b : Int) : Int := IntKind.u64.wrap (a * 2 ^ Nat.min b.toNat 64)
def sr (a b : Int) : Int := a.fdiv (2 ^ Nat.min b.toNat 64)
theorem wU_nonneg (a : Int) : 0 ≤ IntKind.u64.wrap a := by
  unfold IntKind.wrap
  simp [IntKind.signed, IntKind.bits]
  exact Int.emod_nonneg _ (by decide)
@[simp] theorem bin_xo {a b : Int} : binAV .xor (.int .u64 a) (.int .u64 b) = some (.int .u64 (xo a b)) := rfl
@[simp] theorem bin_an {a b : Int} : binAV .and (.int .u64 a) (.int .u64 b) = some (.int .u64 (an a b)) := rfl
@[simp] theorem bin_oo {a b : Int} : binAV .or (.int .u64 a) (.int .u64 b) = some (.int .u64 (oo a b)) := rfl
@[simp] theorem un_nt {a : Int} : unAV .xor (.int .u64 a) = some (.int .u64 (nt a)) := rfl
theorem bin_sl {a b : Int} {k : IntKind} (hb : 0 ≤ b) : binAV .shl (.int .u64 a) (.int k b) = some (.int .u64 (sl a b)) := by
  have : ¬ b < 0 := by omega
  simp [binAV, this, sl, IntKind.bits]
theorem bin_sr {a b : Int} {k : IntKind} (hb : 0 ≤ b) : binAV .shr (.int .u64 a) (.int k b) = some (.int .u64 (sr a b)) := by
  have : ¬ b < 0 := by omega
  simp [binAV, this, sr, IntKind.bits]

/-! ### Arrays -/
abbrev wd (cs : List Int) : List AV := cs.map (AV.int .u64)
abbrev nm (cs : List Int) : List AV := cs.map (AV.int .i64)
section
variable {G : Gam} {s : Bool} {h : Heap}
theorem op_aadr {len size l off i : Nat} {k : IntKind} (hi : i < len) (h2 : 2 ≤ len) : opV G s h (.aadr len size) (some [.ptr l off, .int k i]) = some (.ptr l (off + i * size), h) := by
  rw [opV_quiet rfl]
  have : (0 : Int) ≤ i ∧ (i : Int) < len ∧ 2 ≤ len := ⟨by omega, by omega, h2⟩
  simp [evalPure, this]
theorem op_iarr {len i : Nat} {k : IntKind} {cs : List AV} {v : AV} (hi : i < len) (hv : cs[i]? = some v) : opV G s h (.iarr len 1 false) (some [.agg cs, .int k i]) = some (v, h) := by
  rw [opV_quiet rfl]
  have h1 : (0 : Int) ≤ i ∧ (i : Int) < len := ⟨by omega, by omega⟩
  have := cut_at hv
  simp [evalPure, h1, this, mkVal]
theorem cut_whole {vs : List AV} {n : Nat} (hn : vs.length = n) : cut vs 0 n = vs := by subst hn; simp [cut]
theorem op_boxed {v : AV} (hv : v.cells ≠ []) : opV G s h .box (some [v]) = some (.ptr h.length 0, h ++ [.cells v.cells]) := by
  rw [opV_eff rfl]
  simp only [evalEff]
  split
  · rename_i e; exact absurd e hv
  · rename_i c cs e; rw [e]
@[simp] theorem viewL_ints {k : IntKind} : ∀ cs : List Int, viewL h (cs.map (AV.int k)) = some (cs.map (AV.int k))
  | [] => rfl
  | c :: cs => by simp [viewL_ints cs]
@[simp] theorem ownsL_ints {k : IntKind} : ∀ cs : List Int, ownsL (cs.map (AV.int k)) = []
  | [] => rfl
  | c :: cs => by simp [ownsL, owns, ownsL_ints cs]
theorem all_one {f : Int → AV} (hf : ∀ x, oneC (f x) = true) : ∀ cs : List Int, (cs.map f).all oneC = true
  | [] => rfl
  | c :: cs => by simp [hf, all_one hf cs]
theorem st_all {l n : Nat} {vs us : List AV} (hl : h[l]? = some (.cells vs)) (h1 : vs.length = n) (h2 : us.length = n) (h0 : 0 < n) (hone : us.all oneC = true) : stAV n h (.ptr l 0) (.agg us) = some (h.set l (.cells us)) := by
  have e : setAt vs 0 us = us := by rw [setAt_splice _ _ _ (by omega)]; simp; omega
  have hc : (AV.agg us).cells = us := rfl
  simp only [stAV, hc, hl, e]
  rw [if_pos ⟨h2, h0, hone⟩, if_pos (by omega)]
theorem ld_all {l n : Nat} {vs : List AV} (hl : h[l]? = some (.cells vs)) (hn : vs.length = n) : loadAV n true h (.ptr l 0) = some (.agg vs) := by
  subst hn; simp [loadAV, hl, cut, mkVal]
theorem st_cell {l off : Nat} {vs : List AV} {k : IntKind} {n : Int} (hl : h[l]? = some (.cells vs)) (ho : off < vs.length) : stAV 1 h (.ptr l off) (.int k n) = some (h.set l (.cells (vs.set off (.int k n)))) := by
  simp [hl, AV.cells, oneC, setAt, show off + 1 ≤ vs.length by omega]
end

def decK (k : IntKind) : List AV → Option (List Int)
  | [] => some []
  | .int k' n :: r => if k' = k then (decK k r).map (n :: ·) else none
  | _ => none
theorem decK_de (k : IntKind) : ∀ xs : List Int, decK k (xs.map (AV.int k)) = some xs
  | [] => rfl
  | x :: xs => by simp [decK, decK_de k xs]
theorem decK_ed (k : IntKind) : ∀ {l : List AV} {xs : List Int}, decK k l = some xs → l = xs.map (AV.int k)
  | [], xs, h => by simp only [decK, Option.some.injEq] at h; subst h; rfl
  | a :: l, xs, h => by
    unfold decK at h
    split at h
    · rename_i e; cases e
    · rename_i k' n r e
      injection e with e1 e2; subst e1 e2
      split at h
      · rename_i hk; subst hk
        simp only [Option.map_eq_some_iff] at h
        obtain ⟨ys, h1, rfl⟩ := h
        rw [decK_ed _ h1]; rfl
      · cases h
    · cases h
def rW : REnc (List Int) := ⟨wd, decK .u64, decK_de .u64, fun _ _ => decK_ed .u64⟩
def rN : REnc (List Int) := ⟨nm, decK .i64, decK_de .i64, fun _ _ => decK_ed .i64⟩
theorem eAgg_wd (x : List Int) : (eAgg rW).enc x = .agg (wd x) := rfl
theorem eAgg_nm (x : List Int) : (eAgg rN).enc x = .agg (nm x) := rfl

end Go.Proofs.YtmjdgpiofhildaaGreatDoor

namespace Go.Proofs.YtmjdgpiofhildaaGreatDoor
open Go.RowKit

/-- The check marks the builder by its own address. -/
def F_copyCheck (T : TypeId) : List AV → Heap → Option (AV × Heap)
  | [.ptr l 0], h => match h[l]? with
    | some (.cellsT tg [.nilp, x]) => if tg = some T then some (.tup [], h.set l (.cellsT (some T) [.ptr l 0, x])) else none
    | some (.cellsT _ [.ptr l' 0, _]) => if l' = l then some (.tup [], h) else none
    | _ => none
  | _, _ => none

theorem copyCheck_gen {P : Program} {gv : Gv} {f : FuncId} {T : TypeId}
    (hf : ∀ (b : Nat) (w : World), w.cell? ⟨b, 0, none⟩ = some (.pointer none) → w.shape? b = some (T, 2) → w.frozen? ⟨b, 0, none⟩ = false →
      Calls P f #[.pointer (some ⟨b, 0, none⟩)] w fun e w' => e = .returned (.tuple #[]) ∧ w' = w.setCell ⟨b, 0, none⟩ (.pointer (some ⟨b, 0, none⟩)))
    (hu : ∀ (b : Nat) (w : World), w.cell? ⟨b, 0, none⟩ = some (.pointer (some ⟨b, 0, none⟩)) → Calls P f #[.pointer (some ⟨b, 0, none⟩)] w fun e w' => e = .returned (.tuple #[]) ∧ w' = w) : GenOK P gv f (F_copyCheck T) := by
  intro B C h w args r h' vals hgv hi hr hF
  unfold F_copyCheck at hF
  split at hF
  · rename_i args l
    obtain ⟨v1, us1, e1, h1, hr⟩ := hr.inv_cons
    have := hr.inv_nil; subst this
    cases h1 with
    | ptr _ _ b hb =>
      have hv : vals = #[.pointer (some ⟨b, 0, none⟩)] := by apply Array.ext'; simpa using e1
      subst hv
      split at hF
      · rename_i tg x hl
        split at hF
        · rename_i htg
          simp only [Option.some.injEq, Prod.mk.injEq] at hF; obtain ⟨rfl, rfl⟩ := hF
          obtain ⟨b', cur, e, k1, k2, k3, k4, k5, k6⟩ := hi.ok l _ hl
          rw [hb] at k1; injection k1 with k1; subst k1
          have he := k6 T htg
          subst he
          obtain ⟨y1, vs1, g1, r1, r2⟩ := k5.inv_cons
          obtain ⟨y2, vs2, g2, r3, r4⟩ := r2.inv_cons
          have := r4.inv_nil; subst this
          subst g2
          have hcur : cur = #[y1, y2] := by apply Array.ext'; simpa using g1
          subst hcur
          cases r1
          refine (hf b w (by rw [cell_of_heap k3]; rfl) (by simp [World.shape?, k3]) (by simp [World.frozen?, k3])).mono fun ex w' hk => ?_
          obtain ⟨rfl, rfl⟩ := hk
          refine ⟨_, C, rfl, .refl C, ?_, .tup _ _ rfl (fun i c v hc => by simp at hc), (Keep.refl B w).setCell (p := ⟨b, 0, none⟩) k2 _⟩
          have hnew : (w.setCell ⟨b, 0, none⟩ (.pointer (some ⟨b, 0, none⟩))).heap[b]? = some (.cells #[.pointer (some ⟨b, 0, none⟩), y2] e (0, 0)) := by
            simp [World.setCell, Array.getElem?_modify, k3]
          refine hi.turn hl (.refl C) (by simp [World.setCell]) (fun b' hb' _ => ⟨Below.heap_setCell w ⟨b, 0, none⟩ _ b' (fun e => hb' (by simp [blockOf, hb]; exact e.symm)), fun _ => rfl⟩) (fun b' o u hu => ?_) hi.one ⟨b, _, e, hb, k2, hnew, k4, ?_, fun t ht => by injection ht⟩ (fun b' hb' => .inl hb') hi.fr (fun k ne tg sz ver rows wr hk v hv => ?_)
          · have hne : b' ≠ b := fun e => by subst e; rw [k4 o] at hu; cases hu
            have := hi.im _ _ _ hu
            have hc := Below.heap_setCell w ⟨b, 0, none⟩ (.pointer (some ⟨b, 0, none⟩)) b' hne
            simp only [World.cell?] at this ⊢
            rw [hc]; exact this
          · exact .cons (.ptr l 0 b hb) (.cons r3 .nil)
          · rw [List.getElem?_set] at hk
            split at hk
            · split at hk
              · cases hk
              · cases hk
            · exact hi.fv k ne tg sz ver rows wr hk v hv
        · cases hF
      · rename_i tg l' x hl
        split at hF
        · rename_i hll
          subst hll
          simp only [Option.some.injEq, Prod.mk.injEq] at hF; obtain ⟨rfl, rfl⟩ := hF
          obtain ⟨b', cur, e, k1, k2, k3, k4, k5, k6⟩ := hi.ok l' _ hl
          rw [hb] at k1; injection k1 with k1; subst k1
          obtain ⟨y1, vs1, g1, r1, r2⟩ := k5.inv_cons
          have hy : y1 = .pointer (some ⟨b, 0, none⟩) := by
            cases r1 with
            | ptr _ _ b2 hb2 => rw [hb] at hb2; injection hb2 with hb2; subst hb2; rfl
          subst hy
          refine (hu b w (by rw [cell_of_heap k3, ← Array.getElem?_toList, g1]; rfl)).mono fun ex w' hk => ?_
          obtain ⟨rfl, rfl⟩ := hk
          exact ⟨_, C, rfl, .refl C, hi, .tup _ _ rfl (fun i c v hc => by simp at hc), .refl _ _⟩
        · cases hF
      · cases hF
  · cases hF


section
variable {G : Gam} {s : Bool} {h : Heap}
theorem op_callg {f : FuncId} {F : List AV → Heap → Option (AV × Heap)} {args : List AV} (hf : G f = some (.gen F)) : opV G s h (.callg f) (some args) = F args h := by
  rw [opV_eff rfl]; simp only [evalEff, callAV, hf]
end

/-- What a builder's own address may hold. -/
def addrOK (p : Nat) : AV → Bool
  | .nilp => true
  | .ptr q 0 => decide (q = p)
  | _ => false

abbrev byteRow (b : UInt8) : List AV := [.int .u8 b.toNat]

/-- The heap with more bytes in a builder. -/
def moreB (T e : TypeId) (h : Heap) (p l v n : Nat) (rows : List (List AV)) (s : Bs) : Heap :=
  (h.set p (.cellsT (some T) [.ptr p 0, .own l (v + s.length) (n + s.length)])).set l (.arrT (some e) 1 (v + s.length) (rows ++ s.map byteRow) true)

def writeF (T e : TypeId) (h : Heap) (p : Nat) (s : Bs) : Option Heap :=
  match h[p]? with
  | some (.cellsT tg [a, .own l v n]) => match h[l]? with
    | some (.arrT te 1 v' rows true) => if tg = some T ∧ te = some e ∧ addrOK p a = true ∧ v = v' ∧ n = rows.length ∧ n + s.length ≤ byteMax then some (moreB T e h p l v n rows s) else none
    | _ => none
  | _ => none

def F_WriteString (T e : TypeId) : List AV → Heap → Option (AV × Heap)
  | [.ptr p 0, .str s], h => (writeF T e h p s).map fun h' => (.tup [.int .i64 s.length, .nili], h')
  | _, _ => none
def F_WriteByte (T e : TypeId) : List AV → Heap → Option (AV × Heap)
  | [.ptr p 0, .int .u8 c], h => if 0 ≤ c ∧ c < 256 then (writeF T e h p [UInt8.ofNat c.toNat]).map fun h' => (.nili, h') else none
  | _, _ => none
/-- The bytes; the builder is not to be used any more. -/
def F_String (e : TypeId) : List AV → Heap → Option (AV × Heap)
  | [.ptr p 0], h => match h[p]? with
    | some (.cellsT _ [_, .own l v n]) => match h[l]? with
      | some (.arrT te 1 v' rows true) => if te = some e ∧ v = v' ∧ n = rows.length ∧ n ≤ byteMax then (if n = 0 then some (.str [], h) else (bytesOfRows rows).map fun bs => (.str bs, h.set l .dead)) else none
      | _ => none
    | _ => none
  | _, _ => none

theorem writeF_inv {T e : TypeId} {h h' : Heap} {p : Nat} {s : Bs} (hw : writeF T e h p s = some h') : ∃ a l v rows, h[p]? = some (.cellsT (some T) [a, .own l v rows.length]) ∧ h[l]? = some (.arrT (some e) 1 v rows true) ∧ addrOK p a = true ∧ rows.length + s.length ≤ byteMax ∧ h' = moreB T e h p l v rows.length rows s ∧ l ≠ p := by
  unfold writeF at hw
  split at hw
  · rename_i tg a l v n hp
    split at hw
    · rename_i te v' rows hl
      split at hw
      · rename_i hc
        obtain ⟨rfl, rfl, h1, rfl, rfl, h2⟩ := hc
        injection hw with hw
        exact ⟨a, l, v, rows, hp, hl, h1, h2, hw.symm, fun e => by subst e; rw [hp] at hl; cases hl⟩
      · cases hw
    · cases hw
  · cases hw

theorem check_ok {T : TypeId} {h : Heap} {p : Nat} {a x : AV} (hp : h[p]? = some (.cellsT (some T) [a, x])) (ha : addrOK p a = true) : F_copyCheck T [.ptr p 0] h = some (.tup [], h.set p (.cellsT (some T) [.ptr p 0, x])) := by
  cases a <;> first | (simp [addrOK] at ha; done) | skip
  case nilp => simp [F_copyCheck, hp]
  case ptr q o =>
    cases o with
    | succ o => simp [addrOK] at ha
    | zero =>
      simp only [addrOK, decide_eq_true_eq] at ha
      subst ha
      simp [F_copyCheck, hp, set_here hp]

/-- The append, and the store behind it. -/
theorem app_bytes {G : Gam} {st : Bool} {e : TypeId} {h : Heap} {l v : Nat} {rows : List (List AV)} {x : AV} {str : Bool} {s : Bs} (hl : h[l]? = some (.arrT (some e) 1 v rows true)) (hx : appRows h str x = some (s.map byteRow)) (hb : rows.length + s.length ≤ byteMax) :
    opV G st h (.appT str 1 1 e) (some [.own l v rows.length, x]) = some (.own l (v + s.length) (rows.length + s.length), h.set l (.arrT (some e) 1 (v + s.length) (rows ++ s.map byteRow) true)) := by
  have hsz : sizesOk 1 (s.map byteRow) = true := sizesOk_map (e := byteRow) (n := 1) (fun _ => rfl) s
  by_cases hs : s = []
  · subst hs
    rw [opV_eff rfl]
    simp only [evalEff, hx, hsz, if_true, appAV, hl]
    simp [set_here hl]
  · have := op_appT (G := G) (s := st) (e := e) hx hl rfl hsz (by simpa using hs) (by simpa using hb)
    simpa using this

theorem moreB_at {T e : TypeId} {h : Heap} {p l v n : Nat} {rows : List (List AV)} {s : Bs} {b1 b2 : Blk} (hp : h[p]? = some b1) (hl : h[l]? = some b2) (hne : l ≠ p) :
    (moreB T e h p l v n rows s)[p]? = some (.cellsT (some T) [.ptr p 0, .own l (v + s.length) (n + s.length)]) ∧ (moreB T e h p l v n rows s)[l]? = some (.arrT (some e) 1 (v + s.length) (rows ++ s.map byteRow) true) := by
  have h1 := (List.getElem?_eq_some_iff.1 hp).1
  have h2 := (List.getElem?_eq_some_iff.1 hl).1
  unfold moreB
  constructor
  · rw [List.getElem?_set_ne hne, List.getElem?_set_self h1]
  · rw [List.getElem?_set_self (by simpa using h2)]

theorem moreB_eq {T e : TypeId} {h : Heap} {p l v : Nat} {rows : List (List AV)} {s : Bs} {x : Blk} (hne : l ≠ p) :
    ((h.set p x).set l (.arrT (some e) 1 (v + s.length) (rows ++ s.map byteRow) true)).set p (.cellsT (some T) [.ptr p 0, .own l (v + s.length) (rows.length + s.length)]) = moreB T e h p l v rows.length rows s := by
  unfold moreB
  rw [List.set_comm _ _ hne, List.set_set]

theorem WriteString_ok {G : Gam} (hC : G Fn.__strings_Builder__copyCheck = some (.gen (F_copyCheck 73))) : ∀ args h r h', F_WriteString 73 5 args h = some (r, h') →
    wpM G Mc.__strings_Builder__WriteString (genQ Rs.__strings_Builder__WriteString r h') [] (frInit Ks.__strings_Builder__WriteString args) h := by
  intro args h r h' hF
  unfold F_WriteString at hF
  split at hF
  · rename_i p s
    simp only [Option.map_eq_some_iff, Prod.mk.injEq] at hF
    obtain ⟨h2, hw, rfl, rfl⟩ := hF
    obtain ⟨a, l, v, rows, hp, hl, ha, hb, rfl, hne⟩ := writeF_inv hw
    have hpl := (List.getElem?_eq_some_iff.1 hp).1
    have c1 : opV G false h (.callg Fn.__strings_Builder__copyCheck) (some [.ptr p 0]) = some (.tup [], h.set p (.cellsT (some 73) [.ptr p 0, .own l v rows.length])) := by rw [op_callg hC]; exact check_ok hp ha
    obtain ⟨h1, hh1⟩ : ∃ h1, h1 = h.set p (.cellsT (some 73) [.ptr p 0, .own l v rows.length]) := ⟨_, rfl⟩
    rw [← hh1] at c1
    have g1 : h1[p]? = some (.cellsT (some 73) [.ptr p 0, .own l v rows.length]) := by rw [hh1, List.getElem?_set_self hpl]
    have g2 : h1[l]? = some (.arrT (some 5) 1 v rows true) := by rw [hh1, List.getElem?_set_ne (Ne.symm hne)]; exact hl
    have g3 : loadAV 1 false h1 (.ptr p 1) = some (.own l v rows.length) := by simp [loadAV, g1, cut, mkVal]
    have g4 := app_bytes (G := G) (st := false) (e := 5) (x := .str s) (str := true) g2 rfl hb
    have g5 : (h1.set l (.arrT (some 5) 1 (v + s.length) (rows ++ s.map byteRow) true))[p]? = some (.cellsT (some 73) [.ptr p 0, .own l v rows.length]) := by rw [List.getElem?_set_ne hne]; exact g1
    rw [wpM_go]
    simp [Mc.__strings_Builder__WriteString, Ks.__strings_Builder__WriteString, frInit, upd, lkp, genQ, Rs.__strings_Builder__WriteString, c1, g3, g4, g5, -loadAV]
    rw [hh1]; exact moreB_eq hne
  · cases hF

theorem WriteByte_ok {G : Gam} (hC : G Fn.__strings_Builder__copyCheck = some (.gen (F_copyCheck 73))) : ∀ args h r h', F_WriteByte 73 5 args h = some (r, h') →
    wpM G Mc.__strings_Builder__WriteByte (genQ Rs.__strings_Builder__WriteByte r h') [] (frInit Ks.__strings_Builder__WriteByte args) h := by
  intro args h r h' hF
  unfold F_WriteByte at hF
  split at hF
  · rename_i p c
    split at hF
    · rename_i hc
      simp only [Option.map_eq_some_iff, Prod.mk.injEq] at hF
      obtain ⟨h2, hw, rfl, rfl⟩ := hF
      obtain ⟨a, l, v, rows, hp, hl, ha, hb, rfl, hne⟩ := writeF_inv hw
      have hpl := (List.getElem?_eq_some_iff.1 hp).1
      have c1 : opV G false h (.callg Fn.__strings_Builder__copyCheck) (some [.ptr p 0]) = some (.tup [], h.set p (.cellsT (some 73) [.ptr p 0, .own l v rows.length])) := by rw [op_callg hC]; exact check_ok hp ha
      obtain ⟨h1, hh1⟩ : ∃ h1, h1 = h.set p (.cellsT (some 73) [.ptr p 0, .own l v rows.length]) := ⟨_, rfl⟩
      rw [← hh1] at c1
      have g1 : h1[p]? = some (.cellsT (some 73) [.ptr p 0, .own l v rows.length]) := by rw [hh1, List.getElem?_set_self hpl]
      have g2 : h1[l]? = some (.arrT (some 5) 1 v rows true) := by rw [hh1, List.getElem?_set_ne (Ne.symm hne)]; exact hl
      have g3 : loadAV 1 false h1 (.ptr p 1) = some (.own l v rows.length) := by simp [loadAV, g1, cut, mkVal]
      have hcc : ((UInt8.ofNat c.toNat).toNat : Int) = c := by
        rw [UInt8.toNat_ofNat']
        omega
      have g4 := app_bytes (G := G) (st := false) (e := 5) (x := .tsl [[.int .u8 c]]) (str := false) (s := [UInt8.ofNat c.toNat]) g2 (by simp only [appRows, Bool.false_eq_true, if_false, rowsOf, List.map_cons, List.map_nil, byteRow, hcc]) hb
      have g5 : (h1.set l (.arrT (some 5) 1 (v + [UInt8.ofNat c.toNat].length) (rows ++ [UInt8.ofNat c.toNat].map byteRow) true))[p]? = some (.cellsT (some 73) [.ptr p 0, .own l v rows.length]) := by rw [List.getElem?_set_ne hne]; exact g1
      have g6 := moreB_eq (T := 73) (e := 5) (h := h) (p := p) (l := l) (v := v) (rows := rows) (s := [UInt8.ofNat c.toNat]) (x := .cellsT (some 73) [.ptr p 0, .own l v rows.length]) hne
      rw [← hh1] at g6
      rw [wpM_go]
      simp only [List.length_singleton] at g4 g5 g6
      obtain ⟨nb, hnb⟩ : ∃ nb, nb = [UInt8.ofNat c.toNat].map byteRow := ⟨_, rfl⟩
      rw [← hnb] at g4 g5 g6
      simp [Mc.__strings_Builder__WriteByte, Ks.__strings_Builder__WriteByte, frInit, upd, lkp, genQ, Rs.__strings_Builder__WriteByte, c1, g3, g4, g5, g6, ownsL, owns, viewL, view, sizesOk, onesOk, oneC, -loadAV]
    · cases hF
  · cases hF

theorem String_ok {G : Gam} : ∀ args h r h', F_String 5 args h = some (r, h') →
    wpM G Mc.__strings_Builder__String (genQ Rs.__strings_Builder__String r h') [] (frInit Ks.__strings_Builder__String args) h := by
  intro args h r h' hF
  unfold F_String at hF
  split at hF
  · rename_i p
    split at hF
    · rename_i tg a l v n hp
      split at hF
      · rename_i te v' rows hl
        split at hF
        · rename_i hc
          obtain ⟨rfl, rfl, rfl, hb⟩ := hc
          have g3 : loadAV 1 false h (.ptr p 1) = some (.own l v rows.length) := by simp [loadAV, hp, cut, mkVal]
          split at hF
          · rename_i h0
            have hr0 : rows = [] := List.eq_nil_of_length_eq_zero h0
            subst hr0
            simp only [Option.some.injEq, Prod.mk.injEq] at hF
            obtain ⟨rfl, rfl⟩ := hF
            have g4 : opV G true h .usd (some [.own l v 0]) = some (.nilp, h) := by
              rw [opV_quiet rfl]
              simp [evalPure, hl]
            have g5 : opV G true h (.ustr 5) (some [.nilp, .int .i64 0]) = some (.str [], h) := by
              rw [opV_eff rfl]
              simp [evalEff]
            simp only [List.length_nil] at g3
            rw [wpM_go]
            simp [Mc.__strings_Builder__String, Ks.__strings_Builder__String, frInit, upd, lkp, genQ, Rs.__strings_Builder__String, g3, g4, g5, lenAV, -loadAV]
          · rename_i h0
            simp only [Option.map_eq_some_iff, Prod.mk.injEq] at hF
            obtain ⟨bs, hbs, rfl, rfl⟩ := hF
            have h1 : 0 < rows.length := by omega
            have g4 : opV G true h .usd (some [.own l v rows.length]) = some (.eptr l v 0 0, h) := by
              rw [opV_quiet rfl]
              simp [evalPure, h0]
            have g5 : opV G true h (.ustr 5) (some [.eptr l v 0 0, .int .i64 rows.length]) = some (.str bs, h.set l .dead) := by
              rw [opV_eff rfl]
              simp [evalEff, hl, h1, hb, hbs]
            rw [wpM_go]
            simp [Mc.__strings_Builder__String, Ks.__strings_Builder__String, frInit, upd, lkp, genQ, Rs.__strings_Builder__String, g3, g4, g5, lenAV, -loadAV]
        · cases hF
      · cases hF
    · cases hF
  · cases hF

end Go.Proofs.YtmjdgpiofhildaaGreatDoor

namespace Go.Proofs.YtmjdgpiofhildaaGreatDoor
open Go.RowKit Go.IntWalk

/-- A call that leaves what is known as it was. -/
theorem pure_same {P : Program} {gv : Gv} {f : FuncId} {F : List AV → Option AV}
    (hF : ∀ (I : Nat → Nat → Option Value) (w : World) (args : List AV) (r : AV) (vals : Array Value), Holds I w → GvHolds gv I w → RelL (Cx.pure I) args vals.toList → F args = some r →
      Calls P f vals w fun e w' => (∃ v, e = .returned v ∧ Rel (Cx.pure I) r v) ∧ Below w.heap.size w w') : PureOK P gv f F := by
  intro I w args r vals hI hgl hr hF'
  refine (hF I w args r vals hI hgl hr hF').mono fun e w' hk => ?_
  obtain ⟨⟨v, rfl, hv⟩, hbel⟩ := hk
  exact ⟨v, I, rfl, ⟨fun _ _ _ h => h, fun _ _ _ h _ => h⟩, ⟨fun b o u hu => by rw [Below.cell hbel (p := ⟨b, o, none⟩) (cell_lt (hI.cell b o u hu))]; exact hI.cell b o u hu, hI.one⟩, hv, hbel⟩

theorem rel_tup2 {C : Cx} {a b : AV} {x y : Value} (h : Rel C a x) (k : Rel C b y) : Rel C (.tup [a, b]) (.tuple #[x, y]) := .tup _ _ rfl fun i c v hc hv => by
  match i with
  | 0 => simp at hc hv; subst hc hv; exact h
  | 1 => simp at hc hv; subst hc hv; exact k
  | _ + 2 => simp at hc
theorem rel_tup3 {C : Cx} {a b c : AV} {x y z : Value} (h : Rel C a x) (k : Rel C b y) (l : Rel C c z) : Rel C (.tup [a, b, c]) (.tuple #[x, y, z]) := .tup _ _ rfl fun i c v hc hv => by
  match i with
  | 0 => simp at hc hv; subst hc hv; exact h
  | 1 => simp at hc hv; subst hc hv; exact k
  | 2 => simp at hc hv; subst hc hv; exact l
  | _ + 3 => simp at hc

theorem below_grow {w : World} {k : Nat} {os : Array Obj} : Below w.heap.size w (Go.Sort.grow (w.drewN k) os) := by
  have h : (w.drewN k).heap = w.heap ∧ (w.drewN k).os = w.os ∧ (w.drewN k).tape = w.tape ∧ (w.drewN k).output = w.output := by
    constructor
    · simp [World.drewN]
    · refine ⟨?_, ?_, ?_⟩ <;> simp [World.drewN]
  refine ⟨h.2.1, h.2.2.1, h.2.2.2, by simp [Go.Sort.grow, h.1], fun j hj => ?_⟩
  simp only [Go.Sort.grow, h.1]
  rw [Array.getElem?_append_left hj]

theorem one_arg {I : Nat → Nat → Option Value} {a : AV} {vals : Array Value} (hr : RelL (Cx.pure I) [a] vals.toList) : ∃ x, vals = #[x] ∧ Rel (Cx.pure I) a x := by
  obtain ⟨v1, us1, e1, h1, hr⟩ := hr.inv_cons
  have := hr.inv_nil; subst this
  exact ⟨v1, by apply Array.ext'; simpa using e1, h1⟩
theorem two_args {I : Nat → Nat → Option Value} {a b : AV} {vals : Array Value} (hr : RelL (Cx.pure I) [a, b] vals.toList) : ∃ x y, vals = #[x, y] ∧ Rel (Cx.pure I) a x ∧ Rel (Cx.pure I) b y := by
  obtain ⟨v1, us1, e1, h1, hr⟩ := hr.inv_cons
  obtain ⟨v2, us2, rfl, h2, hr⟩ := hr.inv_cons
  have := hr.inv_nil; subst this
  exact ⟨v1, v2, by apply Array.ext'; simpa using e1, h1, h2⟩

/-! ### strconv.Itoa -/
def F_Itoa : List AV → Option AV
  | [.int .i64 n] => if -9223372036854775808 ≤ n ∧ n ≤ 9223372036854775807 then some (.str (Lib.itoa n)) else none
  | _ => none

theorem itoa_pure {P : Program} {gv : Gv} {f g : FuncId} (hn : P.globalNamed "internal/strconv.uint64pow10" = some g) (ht : gv.tb g = some (Lib.pow10Tab.map fun z => Value.int .u64 z))
    (hc : ∀ (n : Int), -9223372036854775808 ≤ n → n ≤ 9223372036854775807 → ∀ (w : World), Lib.TabIs P w "internal/strconv.uint64pow10" .u64 Lib.pow10Tab →
      Calls P f #[.int .i64 n] w fun e w' => e = .returned (.string ⟨(Lib.itoa n).toArray⟩) ∧ ∃ k os, w' = Go.Sort.grow (w.drewN k) os) : PureOK P gv f F_Itoa := by
  refine pure_same fun I w args r vals hI hgl hr hF => ?_
  unfold F_Itoa at hF
  split at hF
  · rename_i n
    split at hF
    · rename_i hb
      injection hF with hF; subst hF
      obtain ⟨x, rfl, hx⟩ := one_arg hr
      have := int_inv hx; subst this
      obtain ⟨T, fz, htb⟩ := hgl.tb g _ ht
      refine (hc n hb.1 hb.2 w (by simp [Lib.TabIs, World.var?, hn, htb])).mono fun e w' hk => ?_
      obtain ⟨rfl, k, os, rfl⟩ := hk
      exact ⟨⟨_, rfl, .str _⟩, below_grow⟩
    · cases hF
  · cases hF

/-! ### strconv.Atoi -/
def atoiAV (T : TypeId) (s : Bs) : AV := match Lib.atoiAll s with
  | .ok v => .tup [.int .i64 v, .nili]
  | .range => .tup [.int .i64 (Lib.atoiSat s), .iface T .junk]
  | _ => .tup [.int .i64 0, .iface T .junk]
/-- A number's end that is neither a number nor out of range is that of no text. -/
theorem numEnd_cases (x : Lib.NumEnd Int) : (∃ v, x = .ok v) ∨ x = .range ∨ x = Lib.atoiAll [] := by
  rcases x with v | _ | _
  · exact .inl ⟨v, rfl⟩
  · exact .inr (.inr rfl)
  · exact .inr (.inl rfl)
def F_Atoi (T : TypeId) : List AV → Option AV
  | [.str s] => if s.length ≤ 281474976710656 then some (atoiAV T s) else none
  | _ => none

theorem atoi_pure {P : Program} {gv : Gv} {f g4 g5 T e5 : Nat} {t4 t5 : TypeId} {p4 p5 : Value} (h4 : gv.tb g4 = some [.iface t4 p4]) (h5 : gv.tb g5 = some [.iface t5 p5])
    (hok : ∀ (s : ByteArray), s.size ≤ 9223372036854775806 → ∀ (v : Int), Lib.atoiAll s.data.toList = .ok v → ∀ (w : World), Calls P f #[.string s] w fun e w' => e = .returned (.tuple #[.int .i64 v, .nilIface]) ∧ (w' = w ∨ ∃ t, w' = Lib.bytesWorld w e5 t))
    (hsy : ∀ (s : ByteArray), s.size ≤ 281474976710656 → Lib.atoiAll s.data.toList = Lib.atoiAll [] → ∀ (ev : Value) (w : World), w.cell? ⟨g4, 0, none⟩ = some ev → (ev = .nilIface ∨ ∃ te pe, ev = .iface te pe) →
      Calls P f #[.string s] w fun e w' => (∃ N, e = .returned (.tuple #[.int .i64 0, .iface T (.pointer (some ⟨N, 0, none⟩))])) ∧ Below w.heap.size w w')
    (hra : ∀ (s : ByteArray), s.size ≤ 281474976710656 → Lib.atoiAll s.data.toList = .range → ∀ (ev : Value) (w : World), w.cell? ⟨g5, 0, none⟩ = some ev → (ev = .nilIface ∨ ∃ te pe, ev = .iface te pe) →
      Calls P f #[.string s] w fun e w' => (∃ N, e = .returned (.tuple #[.int .i64 (Lib.atoiSat s.data.toList), .iface T (.pointer (some ⟨N, 0, none⟩))])) ∧ Below w.heap.size w w') : PureOK P gv f (F_Atoi T) := by
  refine pure_same fun I w args r vals hI hgl hr hF => ?_
  unfold F_Atoi at hF
  split at hF
  · rename_i s
    split at hF
    · rename_i hb
      injection hF with hF; subst hF
      obtain ⟨x, rfl, hx⟩ := one_arg hr
      have := str_inv hx; subst this
      have hsz : (ByteArray.mk s.toArray).size ≤ 281474976710656 := by rw [size_ba]; exact hb
      have hd : (ByteArray.mk s.toArray).data.toList = s := by simp
      rcases numEnd_cases (Lib.atoiAll s) with ⟨v, hv⟩ | hv | hv
      · have e0 : atoiAV T s = .tup [.int .i64 v, .nili] := by unfold atoiAV; rw [hv]
        rw [e0]
        refine (hok ⟨s.toArray⟩ (by omega) v (by rw [hd]; exact hv) w).mono fun e w' hk => ?_
        obtain ⟨rfl, hk⟩ := hk
        refine ⟨⟨_, rfl, rel_tup2 (.int _ _) .nili⟩, ?_⟩
        rcases hk with rfl | ⟨t, rfl⟩
        · exact Below.refl _ _
        · exact Lib.bytesWorld_below _ _ _
      · have e0 : atoiAV T s = .tup [.int .i64 (Lib.atoiSat s), .iface T .junk] := by unfold atoiAV; rw [hv]
        rw [e0]
        obtain ⟨T5, fz, htb⟩ := hgl.tb g5 _ h5
        refine (hra ⟨s.toArray⟩ hsz (by rw [hd]; exact hv) _ w (by rw [cell_of_heap htb]; rfl) (.inr ⟨_, _, rfl⟩)).mono fun e w' hk => ?_
        obtain ⟨⟨N, rfl⟩, hbel⟩ := hk
        rw [hd]
        exact ⟨⟨_, rfl, rel_tup2 (.int _ _) (.iface _ _ _ (.junk _))⟩, hbel⟩
      · have e0 : atoiAV T s = .tup [.int .i64 0, .iface T .junk] := by unfold atoiAV; rw [hv]; rfl
        rw [e0]
        obtain ⟨T4, fz, htb⟩ := hgl.tb g4 _ h4
        refine (hsy ⟨s.toArray⟩ hsz (by rw [hd]; exact hv) _ w (by rw [cell_of_heap htb]; rfl) (.inr ⟨_, _, rfl⟩)).mono fun e w' hk => ?_
        obtain ⟨⟨N, rfl⟩, hbel⟩ := hk
        exact ⟨⟨_, rfl, rel_tup2 (.int _ _) (.iface _ _ _ (.junk _))⟩, hbel⟩
    · cases hF
  · cases hF

/-! ### strings.Cut, strings.IndexByte -/
def F_Cut : List AV → Option AV
  | [.str s, .str sep] => if s.length < 4294967281 then some (.tup [.str (Lib.cut s sep).1, .str (Lib.cut s sep).2.1, .bool (Lib.cut s sep).2.2]) else none
  | _ => none
theorem cut_pure {P : Program} {gv : Gv} {f g : Nat} {m : Int} (hg : gv g = some [.int .i64 m])
    (hc : ∀ (s sep : ByteArray) (w : World), s.size < 4294967281 → w.cell? ⟨g, 0, none⟩ = some (.int .i64 m) → Calls P f #[.string s, .string sep] w fun e w' =>
      e = .returned (.tuple #[.string ⟨(Lib.cut s.data.toList sep.data.toList).1.toArray⟩, .string ⟨(Lib.cut s.data.toList sep.data.toList).2.1.toArray⟩, .bool (Lib.cut s.data.toList sep.data.toList).2.2]) ∧ ∃ n, w' = w.drewN n) : PureOK P gv f F_Cut := by
  refine pure_same fun I w args r vals hI hgl hr hF => ?_
  unfold F_Cut at hF
  split at hF
  · rename_i s sep
    split at hF
    · rename_i hb
      injection hF with hF; subst hF
      obtain ⟨x, y, rfl, hx, hy⟩ := two_args hr
      have := str_inv hx; subst this
      have := str_inv hy; subst this
      have hm : w.cell? ⟨g, 0, none⟩ = some (.int .i64 m) := by
        have := hgl.gl g _ hg
        cases this with
        | fptr _ _ b o us k1 k2 =>
          have e := k2 0 (.int .i64 m) rfl
          have := int_inv e
          have c0 := hI.cell _ _ _ (k1 0 (.int .i64 m) rfl)
          rw [this] at c0
          simpa using c0
      refine (hc ⟨s.toArray⟩ ⟨sep.toArray⟩ w (by rw [size_ba]; exact hb) hm).mono fun e w' hk => ?_
      obtain ⟨rfl, n, rfl⟩ := hk
      refine ⟨⟨_, rfl, rel_tup3 (.str _) (.str _) (.bool _)⟩, ?_⟩
      have := below_grow (w := w) (k := n) (os := #[])
      rwa [Go.Sort.grow_empty] at this
    · cases hF
  · cases hF

def F_IndexByte : List AV → Option AV
  | [.str s, .int .u8 c] => some (.int .i64 (Lib.indexByte s c.toNat.toUInt8))
  | _ => none
theorem indexByte_pure {P : Program} {gv : Gv} {f : Nat}
    (hc : ∀ (s : ByteArray) (c : Int) (w : World), Calls P f #[.string s, .int .u8 c] w fun e w' => e = .returned (.int .i64 (Lib.indexByte s.data.toList c.toNat.toUInt8)) ∧ w' = w) : PureOK P gv f F_IndexByte := by
  refine pure_same fun I w args r vals hI hgl hr hF => ?_
  unfold F_IndexByte at hF
  split at hF
  · rename_i s c
    injection hF with hF; subst hF
    obtain ⟨x, y, rfl, hx, hy⟩ := two_args hr
    have := str_inv hx; subst this
    have := int_inv hy; subst this
    refine (hc ⟨s.toArray⟩ c w).mono fun e w' hk => ?_
    obtain ⟨rfl, rfl⟩ := hk
    exact ⟨⟨_, rfl, .int _ _⟩, Below.refl _ _⟩
  · cases hF

end Go.Proofs.YtmjdgpiofhildaaGreatDoor

namespace Go.Proofs.YtmjdgpiofhildaaGreatDoor
open Go.RowKit Go.IntWalk

def hexDigits : Bs := [48, 49, 50, 51, 52, 53, 54, 55, 56, 57, 97, 98, 99, 100, 101, 102]
def hexDigit (n : Nat) : UInt8 := hexDigits.getD n 0
def hexE : Bs → Bs
  | [] => []
  | b :: r => hexDigit (b.toNat / 16) :: hexDigit (b.toNat % 16) :: hexE r
theorem hexE_len : ∀ s : Bs, (hexE s).length = 2 * s.length
  | [] => rfl
  | b :: r => by simp only [hexE, List.length_cons, hexE_len r]; omega
theorem hexE_app : ∀ s t : Bs, hexE (s ++ t) = hexE s ++ hexE t
  | [], t => rfl
  | b :: r, t => by simp [hexE, hexE_app r t]

def F_Hex1 : List AV → Heap → Option (AV × Heap)
  | [.int .u8 c, .ptr p 0], h => if 0 ≤ c ∧ c < 16 then (writeF 73 5 h p [hexDigit c.toNat]).map fun h' => (.tup [], h') else none
  | _, _ => none

theorem hexDigit_lt (n : Nat) : ((hexDigit n).toNat : Int) < 256 := by have := (hexDigit n).toNat_lt; omega
theorem ofNat_hex (n : Nat) : UInt8.ofNat ((hexDigit n).toNat : Int).toNat = hexDigit n := by simp

theorem Hex1_ok {G : Gam} (hC : G Fn.__strings_Builder__WriteByte = some (.gen (F_WriteByte 73 5))) : ∀ args h r h', F_Hex1 args h = some (r, h') →
    wpM G Mc.digest_Hex_1 (genQ Rs.digest_Hex_1 r h') [] (frInit Ks.digest_Hex_1 args) h := by
  intro args h r h' hF
  unfold F_Hex1 at hF
  split at hF
  · rename_i c p
    split at hF
    · rename_i hc
      simp only [Option.map_eq_some_iff, Prod.mk.injEq] at hF
      obtain ⟨h2, hw, rfl, rfl⟩ := hF
      obtain ⟨n, rfl⟩ : ∃ n : Nat, c = n := ⟨c.toNat, by omega⟩
      have hn : n < 16 := by omega
      have hdig : hexDigits[n]? = some (hexDigit n) := by
        unfold hexDigit
        rw [List.getD_eq_getElem?_getD]
        have : n < hexDigits.length := hn
        simp [this]
      have c1 : opV G false h (.callg Fn.__strings_Builder__WriteByte) (some [.ptr p 0, .int .u8 (hexDigit n).toNat]) = some (.nili, h2) := by
        rw [op_callg hC]
        simp only [F_WriteByte]
        rw [if_pos ⟨by omega, hexDigit_lt n⟩, ofNat_hex]
        simp at hw
        rw [hw]; rfl
      have c2 : opV G false h .istr (some [.str [48, 49, 50, 51, 52, 53, 54, 55, 56, 57, 97, 98, 99, 100, 101, 102], .int .u8 n]) = some (.int .u8 (hexDigit n).toNat, h) := by
        rw [opV_quiet rfl]
        have hd : ([48, 49, 50, 51, 52, 53, 54, 55, 56, 57, 97, 98, 99, 100, 101, 102] : Bs)[n]? = some (hexDigit n) := hdig
        simp [evalPure, hd]
      rw [wpM_go]
      simp [Mc.digest_Hex_1, Ks.digest_Hex_1, frInit, upd, lkp, genQ, Rs.digest_Hex_1, c1, c2]
    · cases hF
  · cases hF

end Go.Proofs.YtmjdgpiofhildaaGreatDoor

namespace Go.Proofs.YtmjdgpiofhildaaGreatDoor
open Go.RowKit Go.IntWalk

theorem u8_wrap {n : Nat} (h : n < 256) : IntKind.u8.wrap (n : Int) = n := by
  simp [IntKind.wrap, IntKind.signed, IntKind.bits]
  omega
theorem shr4 (b : UInt8) : binAV .shr (.int .u8 (b.toNat : Int)) (.int .u64 4) = some (.int .u8 ((b.toNat / 16 : Nat) : Int)) := by
  have e : ((b.toNat : Int)).fdiv 16 = ((b.toNat / 16 : Nat) : Int) := by rw [Int.fdiv_eq_ediv_of_nonneg _ (by omega)]; omega
  have e2 : Nat.min (4 : Int).toNat IntKind.u8.bits = 4 := rfl
  simp only [binAV, reduceCtorEq, or_true, if_true, e2]
  simp
  exact e
theorem and15 (b : UInt8) : binAV .and (.int .u8 (b.toNat : Int)) (.int .u8 15) = some (.int .u8 ((b.toNat % 16 : Nat) : Int)) := by
  have hb := b.toNat_lt
  have e : (BitVec.ofInt 8 (b.toNat : Int) &&& BitVec.ofInt 8 15).toNat = b.toNat % 16 := by
    rw [BitVec.toNat_and]
    have e1 : (BitVec.ofInt 8 (b.toNat : Int)).toNat = b.toNat := by
      rw [BitVec.toNat_ofInt]; omega
    have e2 : (BitVec.ofInt 8 15).toNat = 2 ^ 4 - 1 := rfl
    rw [e1, e2, Nat.and_two_pow_sub_one_eq_mod]
  have e3 : intBin .and .u8 (b.toNat : Int) 15 = some (.int .u8 (IntKind.u8.wrap ((BitVec.ofInt 8 (b.toNat : Int) &&& BitVec.ofInt 8 15).toNat : Int))) := rfl
  simp only [binAV, reduceCtorEq, or_self, if_false, if_true]
  rw [e3, e, u8_wrap (by omega)]

/-- A builder of one's own. -/
def bldH (o : Bs) : Heap := [.arrT (some 5) 1 o.length (o.map byteRow) true, .cellsT (some 73) [if o = [] then .nilp else .ptr 1 0, .own 0 o.length o.length]]
theorem bldH_write {o s : Bs} (hs : s ≠ []) (hb : o.length + s.length ≤ byteMax) : writeF 73 5 (bldH o) 1 s = some (bldH (o ++ s)) := by
  have ha : addrOK 1 (if o = [] then .nilp else .ptr 1 0) = true := by split <;> rfl
  simp only [writeF, bldH, List.getElem?_cons_succ, List.getElem?_cons_zero]
  rw [if_pos ⟨trivial, trivial, ha, trivial, by simp, hb⟩]
  simp [moreB, hs]
theorem bytes_back : ∀ o : Bs, bytesOfRows (o.map byteRow) = some o
  | [] => rfl
  | b :: o => by
    have hb := b.toNat_lt
    simp only [List.map_cons, bytesOfRows, bytes_back o]
    rw [if_pos ⟨by omega, by omega⟩]
    simp
theorem bldH_len (o : Bs) : (bldH o).length = 2 := rfl
theorem bldH_string {o : Bs} (h0 : o ≠ []) (hb : o.length ≤ byteMax) : F_String 5 [.ptr 1 0] (bldH o) = some (.str o, (bldH o).set 0 .dead) := by
  have : 0 < o.length := List.length_pos_iff.2 h0
  simp only [F_String, bldH, List.getElem?_cons_succ, List.getElem?_cons_zero]
  rw [if_pos ⟨trivial, trivial, by simp, hb⟩, if_neg (by omega), bytes_back]
  rfl

theorem bldH_nil : bldH [] = [.arrT (some 5) 1 0 [] true, .cellsT (some 73) [.nilp, .own 0 0 0]] := rfl
@[simp] theorem op_allocB {G : Gam} {st : Bool} {h : Heap} {t e : TypeId} : opV G st h (.allocB t e) (some []) = some (.ptr (h.length + 1) 0, h ++ [.arrT (some e) 1 0 [] true] ++ [.cellsT (some t) [.nilp, .own h.length 0 0]]) := by rw [opV_eff rfl]; rfl

def hexR (s : Bs) : AV := if s.length = 32 then .tup [.str (hexE s), .int .i64 0] else .tup [.str [], .int .i64 1]
def F_Hex : List AV → Option AV
  | [.str s] => if s.length < big then some (hexR s) else none
  | _ => none

theorem hex_L0 (G : Gam) (hC : G Fn.digest_Hex_1 = some (.gen F_Hex1)) (s : Bs) (hb : s.length < 1000) {ks : List MK} {Q : MPost} : ∀ (rest : Bs) (i : Nat), s.drop i = rest → i ≤ s.length →
    (∀ env, exM G .normal ks Q env [(0, .str s), (2, .str []), (3, .int .i64 0), (4, .ptr 1 0), (5, .fn Fn.digest_Hex_1 [.ptr 1 0]), (6, .int .i64 s.length)] (bldH (hexE s))) →
    headM G [] Mc.digest_Hex_L0 2 (.blk 0 :: ks) Q [(0, .str s), (2, .str []), (3, .int .i64 0), (4, .ptr 1 0), (5, .fn Fn.digest_Hex_1 [.ptr 1 0]), (6, .int .i64 i)] (bldH (hexE (s.take i)))
  | [], i, hd, hi, hk => by
    have hi2 := drop_nil hd
    have e : i = s.length := by omega
    subst e
    rw [List.take_length]
    refine head_go (Mc.digest_Hex_L0.eq_1) ?_
    rw [trunc_len (n := 2) rfl]
    simp
    simpa using hk _
  | b :: rest, i, hd, hi, hk => by
    obtain ⟨hi2, hx, hxd⟩ := drop_cons hd
    have hi' : ltB i s.length = true := ltB_iff.2 (by omega)
    have hw := wrap1 (i := i) (by unfold big; omega)
    have htl : (s.take i).length = i := by simp; omega
    have htk : s.take (i + 1) = s.take i ++ [b] := by rw [List.take_add_one, hx]; rfl
    have hnext : hexE (s.take (i + 1)) = (hexE (s.take i) ++ [hexDigit (b.toNat / 16)]) ++ [hexDigit (b.toNat % 16)] := by rw [htk, hexE_app]; simp [hexE]
    have hl := hexE_len (s.take i)
    have hbt := b.toNat_lt
    have w1 : callAV G Fn.digest_Hex_1 [.int .u8 ((b.toNat / 16 : Nat) : Int), .ptr 1 0] (bldH (hexE (s.take i))) = some (.tup [], bldH (hexE (s.take i) ++ [hexDigit (b.toNat / 16)])) := by
      rw [call_gen hC]
      simp only [F_Hex1]
      rw [if_pos ⟨by omega, by omega⟩, Int.toNat_natCast, bldH_write (by simp) (by unfold byteMax; simp; omega)]
      rfl
    have w2 : callAV G Fn.digest_Hex_1 [.int .u8 ((b.toNat % 16 : Nat) : Int), .ptr 1 0] (bldH (hexE (s.take i) ++ [hexDigit (b.toNat / 16)])) = some (.tup [], bldH (hexE (s.take (i + 1)))) := by
      rw [call_gen hC, hnext]
      simp only [F_Hex1]
      rw [if_pos ⟨by omega, by omega⟩, Int.toNat_natCast, bldH_write (by simp) (by unfold byteMax; simp; omega)]
      rfl
    have c1 : ∀ h, opV G false h .istr (some [.str s, .int .i64 i]) = some (.int .u8 b.toNat, h) := fun h => op_istr hx
    have ih := hex_L0 G hC s hb rest (i + 1) (by rw [← hxd]) (by omega) hk
    refine head_go (Mc.digest_Hex_L0.eq_1) ?_
    rw [trunc_len (n := 2) rfl]
    obtain ⟨H0, hH0⟩ : ∃ H, H = bldH (hexE (s.take i)) := ⟨_, rfl⟩
    obtain ⟨H1, hH1⟩ : ∃ H, H = bldH (hexE (s.take i) ++ [hexDigit (b.toNat / 16)]) := ⟨_, rfl⟩
    obtain ⟨H2, hH2⟩ : ∃ H, H = bldH (hexE (s.take (i + 1))) := ⟨_, rfl⟩
    rw [← hH0, ← hH1] at w1
    rw [← hH1, ← hH2] at w2
    rw [← hH2] at ih
    rw [← hH0]
    have hl2 : H2.length = 2 := by rw [hH2]; rfl
    have s1 := shr4 b
    have s2 := and15 b
    obtain ⟨q, hq⟩ : ∃ q, q = b.toNat / 16 := ⟨_, rfl⟩
    obtain ⟨m, hm⟩ : ∃ m, m = b.toNat % 16 := ⟨_, rfl⟩
    rw [← hq] at s1 w1
    rw [← hm] at s2 w2
    simp [hi', c1, s1, s2, w1, w2, hw]
    refine head_of ?_
    rw [trunc_len (n := 2) hl2]
    simpa using ih

theorem Hex_ok {G : Gam} (hC : G Fn.digest_Hex_1 = some (.gen F_Hex1)) (hS : G Fn.__strings_Builder__String = some (.gen (F_String 5))) : ∀ args r, F_Hex args = some r → wpM G Mc.digest_Hex (pureQ Rs.digest_Hex r) [] (frInit Ks.digest_Hex args) [] := by
  intro args r hF
  unfold F_Hex at hF
  split at hF
  · rename_i s
    split at hF
    · rename_i hb
      injection hF with hF; subst hF
      rw [wpM_go]
      by_cases h32 : s.length = 32
      · have heq : eqB s.length 32 = true := by simp [eqB, h32]
        have ne : hexE s ≠ [] := fun e => by have := congrArg List.length e; rw [hexE_len] at this; simp at this; omega
        have st := bldH_string ne (by rw [hexE_len]; unfold byteMax; omega)
        have c2 : opV G false (bldH (hexE s)) (.callg Fn.__strings_Builder__String) (some [.ptr 1 0]) = some (.str (hexE s), (bldH (hexE s)).set 0 .dead) := by rw [op_callg hS]; exact st
        have lp := hex_L0 G hC s (by omega) (ks := [.seq (.seq (.reg [
            ⟨none, some 29, false, .callg Fn.__strings_Builder__String, [.t 4]⟩,
            ⟨none, some 2, true, .mv, [.t 29]⟩,
            ⟨none, some 3, true, .mv, [.c (.int .i64 0)]⟩]) .ret)]) (Q := pureQ Rs.digest_Hex (hexR s)) s 0 rfl (by omega) (fun env => by
          simp [c2, pureQ, Rs.digest_Hex, hexR, h32, upd, lkp])
        have heq' : eqB (32 : Int) 32 = true := by simp [eqB]
        rw [List.take_zero, show hexE [] = [] from rfl, bldH_nil] at lp
        simp [Mc.digest_Hex, Ks.digest_Hex, frInit, upd, lkp, h32, heq']
        simpa [h32] using lp
      · have heq : eqB (s.length : Int) 32 = false := by simp [eqB]; omega
        simp [Mc.digest_Hex, Ks.digest_Hex, frInit, upd, lkp, heq, hexR, pureQ, Rs.digest_Hex, h32]
    · cases hF
  · cases hF

end Go.Proofs.YtmjdgpiofhildaaGreatDoor
