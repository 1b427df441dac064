/- Numbers and texts as bytes: what is read of them,and that it is what was written: plain laws. Small laws on cells and numbers. Small laws on strings and numbers of the small language. The reference:  -/
import Derived.Test.YtopiadllkglamaaGreatDoorWAm10
import Derived.Lib.ItoaNum
import Derived.Test.YtopiadllkglamaaGreatDoorWRecMc
namespace Go.Proofs.YtopiadllkglamaaGreatDoor
open Go.RowKit Go.IntWalk
theorem zm7 {n : Nat} (h : n < 10) : Lib.decDigits n = [UInt8.ofNat (48 + n)] := by rw [Lib.decDigits]; simp [h]
theorem ya7 {n : Nat} (h : ¬ n < 10) : Lib.decDigits n = Lib.decDigits (n / 10) ++ Lib.decDigits (n % 10) := by
 rw [Lib.decDigits]; simp only [h,dite_false]
 rw [zm7 (n := n % 10) (by omega)]
theorem ya6 : ∀ (k n : Nat),n < 10 ^ k → (Lib.decDigits n).length ≤ k + 1
 | 0,n,h => by
  have : n = 0 := by simpa using h
  subst this; rw [zm7 (by omega)]; simp
 | k + 1,n,h => by
  by_cases h1 : n < 10
  ·rw [zm7 h1]; simp
  ·rw [ya7 h1,zm7 (n := n % 10) (by omega)]
   have := ya6 k (n / 10) (by rw [Nat.pow_succ] at h; omega)
   simp; omega
theorem xn2 : ∀ (k n : Nat),n < k → 0 < (Lib.decDigits n).length
 | 0,_,h => by omega
 | k + 1,n,h => by
  by_cases h1 : n < 10
  ·rw [zm7 h1]; simp
  ·rw [ya7 h1]
   have := xn2 k (n / 10) (by omega)
   simp; omega
theorem zA7 {n : Int} (h : 0 ≤ n) : Lib.itoa n = Lib.decDigits n.toNat := by
 unfold Lib.itoa; rw [if_neg (by omega)]
inductive Cnt where
 | ok (n i : Nat)
 | short
 | corrupt
structure Rd where
 rest : Bs
 err : Int
end Go.Proofs.YtopiadllkglamaaGreatDoor
namespace Go.Proofs.YtopiadllkglamaaGreatDoor
open Go.RowKit Go.IntWalk
@[simp] theorem wj7 {a b : Int} : zc2 .mul (.int .i64 a) (.int .i64 b) = some (.int .i64 (IntKind.i64.wrap (a * b))) := rfl
theorem zb6 {n : Int} (h0 : 0 ≤ n) (h1 : n < 1000) : IntKind.i64.wrap n = n := i64_in _ ⟨by omega,by omega⟩
theorem zK9 {h : Heap} {l : Nat} {b : Blk} (hl : h[l]? = some b) : h.set l b = h := by
 apply List.ext_getElem?
 intro j
 rw [List.getElem?_set]
 by_cases e : l = j
 ·subst e
  rw [if_pos rfl,if_pos (List.getElem?_eq_some_iff.1 hl).1,hl]
 ·rw [if_neg e]
section
variable {G : Gam} {s : Bool} {h : Heap}
theorem zn0 {vs : List AV} {off : Nat} {v : AV} (hv : vs[off]? = some v) : cut vs off 1 = [v] := by
 obtain ⟨ho,rfl⟩ := List.getElem?_eq_some_iff.1 hv
 unfold cut
 rw [List.drop_eq_getElem_cons ho]
 rfl
theorem zk9 {l off : Nat} {vs : List AV} {v : AV} (hl : h[l]? = some (.cells vs)) (hv : vs[off]? = some v) : za8 1 false h (.ptr l off) = some v := by
 simp [za8,hl,zn0 hv,zd8]
@[simp] theorem xE1 {l off : Nat} : opV G s h .nilck (some [.ptr l off]) = some (.ptr l off,h) := by rw [zb2 rfl]; rfl
end
def xo (a b : Int) : Int := IntKind.u64.wrap (BitVec.ofInt 64 a ^^^ BitVec.ofInt 64 b).toNat
def an (a b : Int) : Int := IntKind.u64.wrap (BitVec.ofInt 64 a &&& BitVec.ofInt 64 b).toNat
def oo (a b : Int) : Int := IntKind.u64.wrap (BitVec.ofInt 64 a ||| BitVec.ofInt 64 b).toNat
def nt (a : Int) : Int := IntKind.u64.wrap (BitVec.ofInt 64 IntKind.u64.max ^^^ BitVec.ofInt 64 a).toNat
def sl (a b : Int) : Int := IntKind.u64.wrap (a * 2 ^ Nat.min b.toNat 64)
def sr (a b : Int) : Int := a.fdiv (2 ^ Nat.min b.toNat 64)
theorem yr6 (a : Int) : 0 ≤ IntKind.u64.wrap a := by
 unfold IntKind.wrap
 simp [IntKind.signed,IntKind.bits]
 exact Int.emod_nonneg _ (by decide)
@[simp] theorem bin_xo {a b : Int} : zc2 .xor (.int .u64 a) (.int .u64 b) = some (.int .u64 (xo a b)) := rfl
@[simp] theorem bin_an {a b : Int} : zc2 .and (.int .u64 a) (.int .u64 b) = some (.int .u64 (an a b)) := rfl
@[simp] theorem bin_oo {a b : Int} : zc2 .or (.int .u64 a) (.int .u64 b) = some (.int .u64 (oo a b)) := rfl
@[simp] theorem xV8 {a : Int} : unAV .xor (.int .u64 a) = some (.int .u64 (nt a)) := rfl
theorem yP7 {a b : Int} {k : IntKind} (hb : 0 ≤ b) : zc2 .shl (.int .u64 a) (.int k b) = some (.int .u64 (sl a b)) := by
 have : ¬ b < 0 := by omega
 simp [zc2,this,sl,IntKind.bits]
theorem yP6 {a b : Int} {k : IntKind} (hb : 0 ≤ b) : zc2 .shr (.int .u64 a) (.int k b) = some (.int .u64 (sr a b)) := by
 have : ¬ b < 0 := by omega
 simp [zc2,this,sr,IntKind.bits]
abbrev wd (cs : List Int) : List AV := cs.map (AV.int .u64)
abbrev nm (cs : List Int) : List AV := cs.map (AV.int .i64)
section
variable {G : Gam} {s : Bool} {h : Heap}
theorem zh5 {len size l off i : Nat} {k : IntKind} (hi : i < len) (h2 : 2 ≤ len) : opV G s h (.aadr len size) (some [.ptr l off,.int k i]) = some (.ptr l (off + i * size),h) := by
 rw [zb2 rfl]
 have : (0 : Int) ≤ i ∧ (i : Int) < len ∧ 2 ≤ len := ⟨by omega,by omega,h2⟩
 simp [za7,this]
theorem yF6 {len i : Nat} {k : IntKind} {cs : List AV} {v : AV} (hi : i < len) (hv : cs[i]? = some v) : opV G s h (.iarr len 1 false) (some [.agg cs,.int k i]) = some (v,h) := by
 rw [zb2 rfl]
 have h1 : (0 : Int) ≤ i ∧ (i : Int) < len := ⟨by omega,by omega⟩
 have := zn0 hv
 simp [za7,h1,this,zd8]
theorem zs2 {vs : List AV} {n : Nat} (hn : vs.length = n) : cut vs 0 n = vs := by subst hn; simp [cut]
theorem zM0 {v : AV} (hv : v.cells ≠ []) : opV G s h .box (some [v]) = some (.ptr h.length 0,h ++ [.cells v.cells]) := by
 rw [zi1 rfl]
 simp only [zb1]
 split
 ·rename_i e; exact absurd e hv
 ·rename_i c cs e; rw [e]
@[simp] theorem yS1 {k : IntKind} : ∀ cs : List Int,zj6 h (cs.map (AV.int k)) = some (cs.map (AV.int k))
 | [] => rfl
 | c :: cs => by simp [yS1 cs]
@[simp] theorem yU6 {k : IntKind} : ∀ cs : List Int,zm0 (cs.map (AV.int k)) = []
 | [] => rfl
 | c :: cs => by simp [zm0,owns,yU6 cs]
theorem zr0 {f : Int → AV} (hf : ∀ x,oneC (f x) = true) : ∀ cs : List Int,(cs.map f).all oneC = true
 | [] => rfl
 | c :: cs => by simp [hf,zr0 hf cs]
theorem zC1 {l n : Nat} {vs us : List AV} (hl : h[l]? = some (.cells vs)) (h1 : vs.length = n) (h2 : us.length = n) (h0 : 0 < n) (hone : us.all oneC = true) : stAV n h (.ptr l 0) (.agg us) = some (h.set l (.cells us)) := by
 have e : zj1 vs 0 us = us := by rw [zi6 _ _ _ (by omega)]; simp; omega
 have hc : (AV.agg us).cells = us := rfl
 simp only [stAV,hc,hl,e]
 rw [if_pos ⟨h2,h0,hone⟩,if_pos (by omega)]
theorem xe9 {l n : Nat} {vs : List AV} (hl : h[l]? = some (.cells vs)) (hn : vs.length = n) : za8 n true h (.ptr l 0) = some (.agg vs) := by
 subst hn; simp [za8,hl,cut,zd8]
theorem zw8 {l off : Nat} {vs : List AV} {k : IntKind} {n : Int} (hl : h[l]? = some (.cells vs)) (ho : off < vs.length) : stAV 1 h (.ptr l off) (.int k n) = some (h.set l (.cells (vs.set off (.int k n)))) := by
 simp [hl,AV.cells,oneC,zj1,show off + 1 ≤ vs.length by omega]
end
def decK (k : IntKind) : List AV → Option (List Int)
 | [] => some []
 | .int k' n :: r => if k' = k then (decK k r).map (n :: ·) else none
 | _ => none
theorem zP8 (k : IntKind) : ∀ xs : List Int,decK k (xs.map (AV.int k)) = some xs
 | [] => rfl
 | x :: xs => by simp [decK,zP8 k xs]
theorem zP7 (k : IntKind) : ∀ {l : List AV} {xs : List Int},decK k l = some xs → l = xs.map (AV.int k)
 | [],xs,h => by simp only [decK,Option.some.injEq] at h; subst h; rfl
 | a :: l,xs,h => by
  unfold decK at h
  split at h
  ·rename_i e; cases e
  ·rename_i k' n r e
   injection e with e1 e2; subst e1 e2
   split at h
   ·rename_i hk; subst hk
    simp only [Option.map_eq_some_iff] at h
    obtain ⟨ys,h1,rfl⟩ := h
    rw [zP7 _ h1]; rfl
   ·cases h
  ·cases h
def rW : REnc (List Int) := ⟨wd,decK .u64,zP8 .u64,fun _ _ => zP7 .u64⟩
def rN : REnc (List Int) := ⟨nm,decK .i64,zP8 .i64,fun _ _ => zP7 .i64⟩
theorem yo3 (x : List Int) : (eAgg rW).enc x = .agg (wd x) := rfl
theorem xN7 (x : List Int) : (eAgg rN).enc x = .agg (nm x) := rfl
end Go.Proofs.YtopiadllkglamaaGreatDoor
namespace Go.Proofs.YtopiadllkglamaaGreatDoor
open Go.RowKit Go.IntWalk
theorem zi7 {a b : Bs} (h : a.length + b.length ≤ zj2) : zc2 .add (.str a) (.str b) = some (.str (a ++ b)) := by
 simp only [zc2,zy6]
 simp
 unfold zj2 at h ⊢
 omega
theorem zI0 {n : Nat} (h : n < 256) : IntKind.u8.wrap (n : Int) = n := by
 simp [IntKind.wrap,IntKind.signed,IntKind.bits]
 omega
theorem zf3 {n : Nat} {fr : List (Nat × AV)} {h : Heap} (hl : h.length = n) : trunc n fr h = h := by
 subst hl
 unfold trunc
 split
 ·exact List.take_length
 ·rfl
end Go.Proofs.YtopiadllkglamaaGreatDoor
namespace Go.Proofs.YtopiadllkglamaaGreatDoor
open Go.RowKit Go.IntWalk
def zR7 (k : Nat) : List AV → Option AV
 | [.int .i64 n] => if 0 ≤ n ∧ n < 10 ^ k then some (.str (Lib.decDigits n.toNat)) else none
 | _ => none
theorem yj9 {G : Gam} (k : Nat) (hk : k < 16) (hG : k = 0 ∨ G Fn.q38 = some (.pure (zR7 k))) : ∀ args r,zR7 (k + 1) args = some r → wpM G Mc.q38 (zb0 Rs.q38 r) [] (za2 Ks.q38 args) [] := by
 intro args r hF
 unfold zR7 at hF
 split at hF
 ·rename_i n
  split at hF
  ·rename_i hn
   injection hF with hF; subst hF
   obtain ⟨m,rfl⟩ : ∃ m : Nat,n = m := ⟨n.toNat,by omega⟩
   have hm : m < 10 ^ (k + 1) := by
    have h2 := hn.2
    have : ((10 ^ (k + 1) : Nat) : Int) = (10 : Int) ^ (k + 1) := by simp
    omega
   have hsm : m < 10000000000000000 := Nat.lt_of_lt_of_le hm (by
    have := Nat.pow_le_pow_right (n := 10) (by omega) (show k + 1 ≤ 16 by omega)
    omega)
   simp only [Int.toNat_natCast]
   rw [zc8]
   by_cases h10 : m < 10
   ·have e1 : ltB (m : Int) 10 = true := zb8.2 (by omega)
    have e2 : zc2 .add (.int .i64 48) (.int .i64 m) = some (.int .i64 ((48 + m : Nat) : Int)) := by
     have : IntKind.i64.wrap (48 + (m : Int)) = ((48 + m : Nat) : Int) := by
      rw [show (48 : Int) + m = ((48 + m : Nat) : Int) by omega]; exact zb6 (by omega) (by omega)
     simp only [zc2,zh3]
     simp [this]
    rw [zm7 h10]
    obtain ⟨q,hq⟩ : ∃ q,q = 48 + m := ⟨_,rfl⟩
    rw [← hq] at e2 ⊢
    have e3 : IntKind.u8.wrap (q : Int) = q := zI0 (by omega)
    have e4 : ze6 [[AV.int .u8 (q : Int)]] = some [UInt8.ofNat q] := by
     simp [ze6]; omega
    have e5 : opV G false [] .b2s (some [.tsl [[AV.int .u8 (q : Int)]]]) = some (.str [UInt8.ofNat q],[]) := by
     rw [zb2 rfl]
     simp [za7,zb7,e4]
    simp [Mc.q38,Ks.q38,za2,upd,lkp,e1,e2,e3,e5,zm0,owns,zj6,view,zc3,zt1,oneC,AV.cells,zb0,Rs.q38]
   ·have e1 : ltB (m : Int) 10 = false := ze4.2 (by omega)
    have hk0 : k ≠ 0 := fun e => by subst e; simp at hm; omega
    have hG := hG.resolve_left hk0
    have e2 : zc2 .quo (.int .i64 m) (.int .i64 10) = some (.int .i64 ((m / 10 : Nat) : Int)) := by
     have e : ((m : Int).tdiv 10) = ((m / 10 : Nat) : Int) := by rw [Int.tdiv_eq_ediv_of_nonneg (by omega)]; omega
     have e2 : IntKind.i64.wrap ((m / 10 : Nat) : Int) = ((m / 10 : Nat) : Int) := i64_in _ ⟨by omega,by omega⟩
     simp only [zc2,zh3]
     simp only [reduceCtorEq,or_self,if_false,if_true,e,e2]
     simp
    have e3 : zc2 .rem (.int .i64 m) (.int .i64 10) = some (.int .i64 ((m % 10 : Nat) : Int)) := by
     have e : ((m : Int).tmod 10) = ((m % 10 : Nat) : Int) := by rw [Int.tmod_eq_emod_of_nonneg (by omega)]; omega
     simp only [zc2,zh3]
     simp [e]
    obtain ⟨a,ha⟩ : ∃ a,a = m / 10 := ⟨_,rfl⟩
    obtain ⟨b,hb⟩ : ∃ b,b = m % 10 := ⟨_,rfl⟩
    rw [← ha] at e2
    rw [← hb] at e3
    have hpk : ((10 ^ k : Nat) : Int) = (10 : Int) ^ k := by simp
    have h10k : 10 ≤ 10 ^ k := by
     have := Nat.pow_le_pow_right (n := 10) (by omega) (show 1 ≤ k by omega)
     simpa using this
    have ha2 : a < 10 ^ k := by rw [Nat.pow_succ] at hm; omega
    have hb2 : b < 10 ^ k := by omega
    have c1 : ∀ st h,opV G st h (.call Fn.q38) (some [.int .i64 a]) = some (.str (Lib.decDigits a),h) := fun st h => zb5 hG (us := [.int .i64 a]) rfl (by
     simp only [zR7]; rw [if_pos ⟨by omega,by omega⟩]; simp) (.inl rfl)
    have hb10 : b < 10 := by omega
    have e4 : zc2 .add (.int .i64 48) (.int .i64 b) = some (.int .i64 ((48 + b : Nat) : Int)) := by
     have : IntKind.i64.wrap (48 + (b : Int)) = ((48 + b : Nat) : Int) := by
      rw [show (48 : Int) + b = ((48 + b : Nat) : Int) by omega]; exact i64_in _ ⟨by omega,by omega⟩
     simp only [zc2,zh3]
     simp [this]
    obtain ⟨q,hq⟩ : ∃ q,q = 48 + b := ⟨_,rfl⟩
    have e5 : IntKind.u8.wrap (q : Int) = q := zI0 (by omega)
    have e6 : ze6 [[AV.int .u8 (q : Int)]] = some [UInt8.ofNat q] := by
     simp [ze6]; omega
    have e7 : ∀ st h,opV G st h .b2s (some [.tsl [[AV.int .u8 (q : Int)]]]) = some (.str [UInt8.ofNat q],h) := fun st h => by
     rw [zb2 rfl]
     simp [za7,zb7,e6]
    have eb : Lib.decDigits b = [UInt8.ofNat q] := by rw [hq]; exact zm7 hb10
    rw [← hq] at e4
    have l1 := ya6 k a ha2
    have s1 := zi7 (a := Lib.decDigits a) (b := [UInt8.ofNat q]) (by unfold zj2; simp; omega)
    rw [ya7 h10,← ha,← hb,eb]
    simp [Mc.q38,Ks.q38,za2,upd,lkp,e1,e2,e3,e4,e5,e7,c1,s1,zm0,owns,zj6,view,zc3,zt1,oneC,AV.cells,zb0,Rs.q38]
  ·cases hF
 ·cases hF
end Go.Proofs.YtopiadllkglamaaGreatDoor
