/- Numbers and texts as bytes: what is read of them,and that it is what was written: plain laws. Small laws on cells and numbers. Small laws on strings and numbers of the small language. The reference:  -/
import Derived.Test.YtaadifodgahnjaaGreatDoorAm10
import Derived.Lib.ItoaNum
import Derived.Test.YtaadifodgahnjaaGreatDoorRecMc
namespace Go.Proofs.YtaadifodgahnjaaGreatDoor
open Go.RowKit Go.IntWalk
theorem dec_small {n : Nat} (h : n < 10) : Lib.decDigits n = [UInt8.ofNat (48 + n)] := by rw [Lib.decDigits]; simp [h]
theorem dec_big {n : Nat} (h : ¬ n < 10) : Lib.decDigits n = Lib.decDigits (n / 10) ++ Lib.decDigits (n % 10) := by
 rw [Lib.decDigits]; simp only [h,dite_false]
 rw [dec_small (n := n % 10) (by omega)]
theorem dec_len : ∀ (k n : Nat),n < 10 ^ k → (Lib.decDigits n).length ≤ k + 1
 | 0,n,h => by
  have : n = 0 := by simpa using h
  subst this; rw [dec_small (by omega)]; simp
 | k + 1,n,h => by
  by_cases h1 : n < 10
  ·rw [dec_small h1]; simp
  ·rw [dec_big h1,dec_small (n := n % 10) (by omega)]
   have := dec_len k (n / 10) (by rw [Nat.pow_succ] at h; omega)
   simp; omega
theorem dec_pos : ∀ (k n : Nat),n < k → 0 < (Lib.decDigits n).length
 | 0,_,h => by omega
 | k + 1,n,h => by
  by_cases h1 : n < 10
  ·rw [dec_small h1]; simp
  ·rw [dec_big h1]
   have := dec_pos k (n / 10) (by omega)
   simp; omega
theorem itoa_dec {n : Int} (h : 0 ≤ n) : Lib.itoa n = Lib.decDigits n.toNat := by
 unfold Lib.itoa; rw [if_neg (by omega)]
inductive Cnt where
 | ok (n i : Nat)
 | short
 | corrupt
def cntE (most : Nat) (e : UInt8) : Bs → Nat → Nat → Cnt
 | [],_,_ => .short
 | c :: s,i,n => if c = e ∧ 0 < i then .ok n i
  else if c.toNat < 48 ∨ 57 < c.toNat ∨ (0 < i ∧ n = 0) then .corrupt
  else if most < 10 * n + (c.toNat - 48) then .corrupt
  else cntE most e s (i + 1) (10 * n + (c.toNat - 48))
theorem digit_nat {d : Nat} (h : d < 10) : (UInt8.ofNat (48 + d)).toNat = 48 + d := by simp; omega
theorem cnt_digit {most : Nat} {e : UInt8} (he : e.toNat < 48 ∨ 57 < e.toNat) {d i a : Nat} {s : Bs} (hd : d < 10) (ha : ¬ (0 < i ∧ a = 0)) (hm : 10 * a + d ≤ most) :
  cntE most e (UInt8.ofNat (48 + d) :: s) i a = cntE most e s (i + 1) (10 * a + d) := by
 have hn := digit_nat hd
 have hne : UInt8.ofNat (48 + d) ≠ e := fun h => by rw [← h,hn] at he; omega
 rw [cntE,if_neg (fun h => hne h.1),if_neg (by rw [hn]; omega),hn]
 rw [if_neg (by omega)]
 rw [show 48 + d - 48 = d by omega]
theorem cnt_dec {most : Nat} {e : UInt8} (he : e.toNat < 48 ∨ 57 < e.toNat) : ∀ (k n : Nat) (s : Bs),n < k → n ≤ most → cntE most e (Lib.decDigits n ++ s) 0 0 = cntE most e s (Lib.decDigits n).length n
 | 0,_,_,h,_ => by omega
 | k + 1,n,s,h,hm => by
  by_cases h1 : n < 10
  ·rw [dec_small h1]
   rw [List.singleton_append,cnt_digit he h1 (by omega) (by omega)]
   simp
  ·rw [dec_big h1,dec_small (n := n % 10) (by omega),List.append_assoc,cnt_dec he k (n / 10) _ (by omega) (by omega),List.singleton_append]
   have hp := dec_pos (n / 10 + 1) (n / 10) (by omega)
   rw [cnt_digit he (by omega) (by omega) (by omega)]
   simp only [List.length_append,List.length_singleton]
   congr 1
   omega
theorem cnt_back {most : Nat} {e : UInt8} (he : e.toNat < 48 ∨ 57 < e.toNat) {n : Nat} {s : Bs} (hm : n ≤ most) : cntE most e (Lib.decDigits n ++ e :: s) 0 0 = .ok n (Lib.decDigits n).length := by
 rw [cnt_dec he (n + 1) n _ (by omega) hm,cntE,if_pos ⟨rfl,dec_pos (n + 1) n (by omega)⟩]
theorem dec_snoc {n d : Nat} (hn : 0 < n) (hd : d < 10) : Lib.decDigits (10 * n + d) = Lib.decDigits n ++ [UInt8.ofNat (48 + d)] := by
 rw [dec_big (n := 10 * n + d) (by omega),dec_small (n := (10 * n + d) % 10) (by omega)]
 rw [show (10 * n + d) / 10 = n by omega,show (10 * n + d) % 10 = d by omega]
theorem cnt_inv {most : Nat} {e : UInt8} : ∀ (s p : Bs) (i a : Nat) {n j : Nat},cntE most e s i a = .ok n j → ((i = 0 ∧ a = 0 ∧ p = []) ∨ (0 < i ∧ p = Lib.decDigits a ∧ i = p.length)) →
  p ++ s = Lib.decDigits n ++ e :: s.drop (j + 1 - i) ∧ j = (Lib.decDigits n).length ∧ i ≤ j ∧ (a ≤ most → n ≤ most)
 | [],_,_,_,_,_,h,_ => by cases h
 | c :: s,p,i,a,n,j,h,hp => by
  rw [cntE] at h
  split at h
  ·rename_i hc
   injection h with h1 h2; subst h1 h2
   obtain ⟨rfl,hi⟩ := hc
   rcases hp with hp | ⟨_,rfl,hp⟩
   ·omega
   ·refine ⟨?_,hp,Nat.le_refl _,id⟩
    rw [show i + 1 - i = 1 by omega]; rfl
  ·split at h
   ·cases h
   ·rename_i hc
    split at h
    ·cases h
    ·rename_i hm
     obtain ⟨d,hd⟩ : ∃ d,d = c.toNat - 48 := ⟨_,rfl⟩
     rw [← hd] at h hm
     have hd10 : d < 10 := by omega
     have hcd : c = UInt8.ofNat (48 + d) := by
      apply UInt8.toNat_inj.1
      rw [digit_nat hd10]; omega
     have key : p ++ [c] = Lib.decDigits (10 * a + d) := by
      rcases hp with ⟨_,rfl,rfl⟩ | ⟨hi,rfl,_⟩
      ·rw [dec_small (n := 10 * 0 + d) (by omega),hcd]; simp
      ·rw [dec_snoc (by omega) hd10,hcd]
     have hl : i + 1 = (p ++ [c]).length := by
      rcases hp with ⟨rfl,_,rfl⟩ | ⟨_,_,rfl⟩ <;> simp
     obtain ⟨k1,k2,k3,k4⟩ := cnt_inv s (p ++ [c]) (i + 1) (10 * a + d) h (.inr ⟨by omega,key,hl⟩)
     refine ⟨?_,k2,by omega,fun _ => k4 (by omega)⟩
     rw [List.append_assoc,List.singleton_append] at k1
     rw [k1]
     rw [show j + 1 - i = (j + 1 - (i + 1)) + 1 by omega,List.drop_succ_cons]
theorem cnt_of {most : Nat} {e : UInt8} {s : Bs} {n j : Nat} (h : cntE most e s 0 0 = .ok n j) : s = Lib.decDigits n ++ e :: s.drop (j + 1) ∧ j = (Lib.decDigits n).length ∧ n ≤ most := by
 obtain ⟨k1,k2,_,k4⟩ := cnt_inv s [] 0 0 h (.inl ⟨rfl,rfl,rfl⟩)
 exact ⟨by simpa using k1,k2,k4 (by omega)⟩
structure Rd where
 rest : Bs
 err : Int
def rdNum (lo hi : Int) (r : Rd) : Int × Rd :=
 if r.err ≠ 0 then (0,r) else match cntE 281474976710656 59 r.rest 0 0 with
 | .ok n i => if (n : Int) < lo ∨ hi < (n : Int) then (0,⟨[],3⟩) else (n,⟨r.rest.drop (i + 1),0⟩)
 | .short => (0,⟨[],13⟩)
 | .corrupt => (0,⟨[],17⟩)
def rdText (most : Int) (r : Rd) : Bs × Rd :=
 if r.err ≠ 0 then ([],r) else match cntE 65536 58 r.rest 0 0 with
 | .ok n i => match (r.rest.drop (i + 1))[n]? with
  | none => ([],⟨[],13⟩)
  | some c => if c ≠ 44 then ([],⟨[],17⟩) else if most < (n : Int) then ([],⟨[],10⟩) else ((r.rest.drop (i + 1)).take n,⟨(r.rest.drop (i + 1)).drop (n + 1),0⟩)
 | .short => ([],⟨[],13⟩)
 | .corrupt => ([],⟨[],17⟩)
def rdClose (r : Rd) : Int := if r.err = 0 ∧ r.rest ≠ [] then 17 else r.err
def numB (n : Nat) : Bs := Lib.decDigits n ++ [59]
def textB (s : Bs) : Bs := Lib.decDigits s.length ++ 58 :: (s ++ [44])
theorem rdNum_back {n : Nat} {lo hi : Int} {s : Bs} (hl : lo ≤ n) (hh : (n : Int) ≤ hi) (hm : n ≤ 281474976710656) : rdNum lo hi ⟨numB n ++ s,0⟩ = ((n : Int),⟨s,0⟩) := by
 unfold rdNum numB
 rw [if_neg (by simp)]
 have e : Lib.decDigits n ++ [59] ++ s = Lib.decDigits n ++ 59 :: s := by simp
 simp only [e]
 rw [cnt_back (by decide) hm]
 simp only
 rw [if_neg (by omega)]
 congr 2
 rw [List.drop_append]; simp
theorem rdText_back {t s : Bs} {most : Int} (hm : (t.length : Int) ≤ most) (hl : t.length ≤ 65536) : rdText most ⟨textB t ++ s,0⟩ = (t,⟨s,0⟩) := by
 unfold rdText textB
 rw [if_neg (by simp)]
 have e : Lib.decDigits t.length ++ 58 :: (t ++ [44]) ++ s = Lib.decDigits t.length ++ 58 :: (t ++ 44 :: s) := by simp
 simp only [e]
 rw [cnt_back (by decide) hl]
 have e2 : (Lib.decDigits t.length ++ 58 :: (t ++ 44 :: s)).drop ((Lib.decDigits t.length).length + 1) = t ++ 44 :: s := by
  rw [List.drop_append]; simp
 simp only [e2]
 have e3 : (t ++ 44 :: s)[t.length]? = some 44 := by simp
 rw [e3]
 simp only [ne_eq,not_true_eq_false,if_false]
 rw [if_neg (by omega)]
 have e4 : (t ++ 44 :: s).drop (t.length + 1) = s := by rw [List.drop_append]; simp
 rw [e4]
 simp
theorem rdNum_inv {lo hi : Int} {r r' : Rd} {n : Int} (h : rdNum lo hi r = (n,r')) (he : r'.err = 0) : r.err = 0 ∧ ∃ k : Nat,n = k ∧ lo ≤ n ∧ n ≤ hi ∧ k ≤ 281474976710656 ∧ r.rest = numB k ++ r'.rest := by
 unfold rdNum at h
 split at h
 ·rename_i h0
  simp only [Prod.mk.injEq] at h; obtain ⟨_,rfl⟩ := h
  exact absurd he h0
 ·rename_i h0
  refine ⟨by simpa using h0,?_⟩
  split at h
  ·rename_i k i hc
   split at h
   ·simp only [Prod.mk.injEq] at h; obtain ⟨_,rfl⟩ := h; cases he
   ·rename_i hb
    simp only [Prod.mk.injEq] at h; obtain ⟨rfl,rfl⟩ := h
    obtain ⟨k1,k2,k3⟩ := cnt_of hc
    refine ⟨k,rfl,by omega,by omega,k3,?_⟩
    unfold numB
    simpa using k1
  ·simp only [Prod.mk.injEq] at h; obtain ⟨_,rfl⟩ := h; cases he
  ·simp only [Prod.mk.injEq] at h; obtain ⟨_,rfl⟩ := h; cases he
theorem rdText_inv {most : Int} {r r' : Rd} {t : Bs} (h : rdText most r = (t,r')) (he : r'.err = 0) : r.err = 0 ∧ (t.length : Int) ≤ most ∧ t.length ≤ 65536 ∧ r.rest = textB t ++ r'.rest := by
 unfold rdText at h
 split at h
 ·rename_i h0
  simp only [Prod.mk.injEq] at h; obtain ⟨_,rfl⟩ := h
  exact absurd he h0
 ·rename_i h0
  refine ⟨by simpa using h0,?_⟩
  split at h
  ·rename_i k i hc
   split at h
   ·simp only [Prod.mk.injEq] at h; obtain ⟨_,rfl⟩ := h; cases he
   ·rename_i c hn
    split at h
    ·simp only [Prod.mk.injEq] at h; obtain ⟨_,rfl⟩ := h; cases he
    ·rename_i h44
     have h44 : c = 44 := by simpa using h44
     subst h44
     split at h
     ·simp only [Prod.mk.injEq] at h; obtain ⟨_,rfl⟩ := h; cases he
     ·rename_i hb
      simp only [Prod.mk.injEq] at h; obtain ⟨rfl,rfl⟩ := h
      obtain ⟨k1,k2,k3⟩ := cnt_of hc
      obtain ⟨body,hbd⟩ : ∃ body,body = r.rest.drop (i + 1) := ⟨_,rfl⟩
      rw [← hbd] at k1 hn ⊢
      have hlt : k < body.length := by
       rcases Nat.lt_or_ge k body.length with h | h
       ·exact h
       ·rw [List.getElem?_eq_none h] at hn; cases hn
      have hlen : (body.take k).length = k := by rw [List.length_take]; omega
      refine ⟨by rw [hlen]; omega,by rw [hlen]; exact k3,?_⟩
      unfold textB
      rw [hlen]
      have hsp : body = body.take k ++ 44 :: body.drop (k + 1) := by
       have h1 := (List.take_append_drop k body).symm
       rw [List.drop_eq_getElem_cons hlt] at h1
       have h2 : body[k] = 44 := by rw [List.getElem?_eq_getElem hlt] at hn; injection hn
       rw [h2] at h1
       exact h1
      rw [k1]
      conv => lhs; rw [hsp]
      simp
  ·simp only [Prod.mk.injEq] at h; obtain ⟨_,rfl⟩ := h; cases he
  ·simp only [Prod.mk.injEq] at h; obtain ⟨_,rfl⟩ := h; cases he
theorem rdNum_err {lo hi : Int} {r : Rd} (h : r.err ≠ 0) : rdNum lo hi r = (0,r) := by unfold rdNum; rw [if_pos h]
theorem rdText_err {most : Int} {r : Rd} (h : r.err ≠ 0) : rdText most r = ([],r) := by unfold rdText; rw [if_pos h]
end Go.Proofs.YtaadifodgahnjaaGreatDoor
namespace Go.Proofs.YtaadifodgahnjaaGreatDoor
open Go.RowKit Go.IntWalk
@[simp] theorem bin_mulI {a b : Int} : binAV .mul (.int .i64 a) (.int .i64 b) = some (.int .i64 (IntKind.i64.wrap (a * b))) := rfl
theorem i64_small {n : Int} (h0 : 0 ≤ n) (h1 : n < 1000) : IntKind.i64.wrap n = n := i64_in _ ⟨by omega,by omega⟩
theorem set_here {h : Heap} {l : Nat} {b : Blk} (hl : h[l]? = some b) : h.set l b = h := by
 apply List.ext_getElem?
 intro j
 rw [List.getElem?_set]
 by_cases e : l = j
 ·subst e
  rw [if_pos rfl,if_pos (List.getElem?_eq_some_iff.1 hl).1,hl]
 ·rw [if_neg e]
section
variable {G : Gam} {s : Bool} {h : Heap}
theorem cut_at {vs : List AV} {off : Nat} {v : AV} (hv : vs[off]? = some v) : cut vs off 1 = [v] := by
 obtain ⟨ho,rfl⟩ := List.getElem?_eq_some_iff.1 hv
 unfold cut
 rw [List.drop_eq_getElem_cons ho]
 rfl
theorem ld_cell {l off : Nat} {vs : List AV} {v : AV} (hl : h[l]? = some (.cells vs)) (hv : vs[off]? = some v) : loadAV 1 false h (.ptr l off) = some v := by
 simp [loadAV,hl,cut_at hv,mkVal]
@[simp] theorem op_nilck_ptr {l off : Nat} : opV G s h .nilck (some [.ptr l off]) = some (.ptr l off,h) := by rw [opV_quiet rfl]; rfl
end
def xo (a b : Int) : Int := IntKind.u64.wrap (BitVec.ofInt 64 a ^^^ BitVec.ofInt 64 b).toNat
def an (a b : Int) : Int := IntKind.u64.wrap (BitVec.ofInt 64 a &&& BitVec.ofInt 64 b).toNat
def oo (a b : Int) : Int := IntKind.u64.wrap (BitVec.ofInt 64 a ||| BitVec.ofInt 64 b).toNat
def nt (a : Int) : Int := IntKind.u64.wrap (BitVec.ofInt 64 IntKind.u64.max ^^^ BitVec.ofInt 64 a).toNat
def sl (a b : Int) : Int := IntKind.u64.wrap (a * 2 ^ Nat.min b.toNat 64)
def sr (a b : Int) : Int := a.fdiv (2 ^ Nat.min b.toNat 64)
theorem wU_nonneg (a : Int) : 0 ≤ IntKind.u64.wrap a := by
 unfold IntKind.wrap
 simp [IntKind.signed,IntKind.bits]
 exact Int.emod_nonneg _ (by decide)
@[simp] theorem bin_xo {a b : Int} : binAV .xor (.int .u64 a) (.int .u64 b) = some (.int .u64 (xo a b)) := rfl
@[simp] theorem bin_an {a b : Int} : binAV .and (.int .u64 a) (.int .u64 b) = some (.int .u64 (an a b)) := rfl
@[simp] theorem bin_oo {a b : Int} : binAV .or (.int .u64 a) (.int .u64 b) = some (.int .u64 (oo a b)) := rfl
@[simp] theorem un_nt {a : Int} : unAV .xor (.int .u64 a) = some (.int .u64 (nt a)) := rfl
theorem bin_sl {a b : Int} {k : IntKind} (hb : 0 ≤ b) : binAV .shl (.int .u64 a) (.int k b) = some (.int .u64 (sl a b)) := by
 have : ¬ b < 0 := by omega
 simp [binAV,this,sl,IntKind.bits]
theorem bin_sr {a b : Int} {k : IntKind} (hb : 0 ≤ b) : binAV .shr (.int .u64 a) (.int k b) = some (.int .u64 (sr a b)) := by
 have : ¬ b < 0 := by omega
 simp [binAV,this,sr,IntKind.bits]
abbrev wd (cs : List Int) : List AV := cs.map (AV.int .u64)
abbrev nm (cs : List Int) : List AV := cs.map (AV.int .i64)
section
variable {G : Gam} {s : Bool} {h : Heap}
theorem op_aadr {len size l off i : Nat} {k : IntKind} (hi : i < len) (h2 : 2 ≤ len) : opV G s h (.aadr len size) (some [.ptr l off,.int k i]) = some (.ptr l (off + i * size),h) := by
 rw [opV_quiet rfl]
 have : (0 : Int) ≤ i ∧ (i : Int) < len ∧ 2 ≤ len := ⟨by omega,by omega,h2⟩
 simp [evalPure,this]
theorem op_iarr {len i : Nat} {k : IntKind} {cs : List AV} {v : AV} (hi : i < len) (hv : cs[i]? = some v) : opV G s h (.iarr len 1 false) (some [.agg cs,.int k i]) = some (v,h) := by
 rw [opV_quiet rfl]
 have h1 : (0 : Int) ≤ i ∧ (i : Int) < len := ⟨by omega,by omega⟩
 have := cut_at hv
 simp [evalPure,h1,this,mkVal]
theorem cut_whole {vs : List AV} {n : Nat} (hn : vs.length = n) : cut vs 0 n = vs := by subst hn; simp [cut]
theorem op_boxed {v : AV} (hv : v.cells ≠ []) : opV G s h .box (some [v]) = some (.ptr h.length 0,h ++ [.cells v.cells]) := by
 rw [opV_eff rfl]
 simp only [evalEff]
 split
 ·rename_i e; exact absurd e hv
 ·rename_i c cs e; rw [e]
@[simp] theorem viewL_ints {k : IntKind} : ∀ cs : List Int,viewL h (cs.map (AV.int k)) = some (cs.map (AV.int k))
 | [] => rfl
 | c :: cs => by simp [viewL_ints cs]
@[simp] theorem ownsL_ints {k : IntKind} : ∀ cs : List Int,ownsL (cs.map (AV.int k)) = []
 | [] => rfl
 | c :: cs => by simp [ownsL,owns,ownsL_ints cs]
theorem all_one {f : Int → AV} (hf : ∀ x,oneC (f x) = true) : ∀ cs : List Int,(cs.map f).all oneC = true
 | [] => rfl
 | c :: cs => by simp [hf,all_one hf cs]
theorem st_all {l n : Nat} {vs us : List AV} (hl : h[l]? = some (.cells vs)) (h1 : vs.length = n) (h2 : us.length = n) (h0 : 0 < n) (hone : us.all oneC = true) : stAV n h (.ptr l 0) (.agg us) = some (h.set l (.cells us)) := by
 have e : setAt vs 0 us = us := by rw [setAt_splice _ _ _ (by omega)]; simp; omega
 have hc : (AV.agg us).cells = us := rfl
 simp only [stAV,hc,hl,e]
 rw [if_pos ⟨h2,h0,hone⟩,if_pos (by omega)]
theorem ld_all {l n : Nat} {vs : List AV} (hl : h[l]? = some (.cells vs)) (hn : vs.length = n) : loadAV n true h (.ptr l 0) = some (.agg vs) := by
 subst hn; simp [loadAV,hl,cut,mkVal]
theorem st_cell {l off : Nat} {vs : List AV} {k : IntKind} {n : Int} (hl : h[l]? = some (.cells vs)) (ho : off < vs.length) : stAV 1 h (.ptr l off) (.int k n) = some (h.set l (.cells (vs.set off (.int k n)))) := by
 simp [hl,AV.cells,oneC,setAt,show off + 1 ≤ vs.length by omega]
end
def decK (k : IntKind) : List AV → Option (List Int)
 | [] => some []
 | .int k' n :: r => if k' = k then (decK k r).map (n :: ·) else none
 | _ => none
theorem decK_de (k : IntKind) : ∀ xs : List Int,decK k (xs.map (AV.int k)) = some xs
 | [] => rfl
 | x :: xs => by simp [decK,decK_de k xs]
theorem decK_ed (k : IntKind) : ∀ {l : List AV} {xs : List Int},decK k l = some xs → l = xs.map (AV.int k)
 | [],xs,h => by simp only [decK,Option.some.injEq] at h; subst h; rfl
 | a :: l,xs,h => by
  unfold decK at h
  split at h
  ·rename_i e; cases e
  ·rename_i k' n r e
   injection e with e1 e2; subst e1 e2
   split at h
   ·rename_i hk; subst hk
    simp only [Option.map_eq_some_iff] at h
    obtain ⟨ys,h1,rfl⟩ := h
    rw [decK_ed _ h1]; rfl
   ·cases h
  ·cases h
def rW : REnc (List Int) := ⟨wd,decK .u64,decK_de .u64,fun _ _ => decK_ed .u64⟩
def rN : REnc (List Int) := ⟨nm,decK .i64,decK_de .i64,fun _ _ => decK_ed .i64⟩
theorem eAgg_wd (x : List Int) : (eAgg rW).enc x = .agg (wd x) := rfl
theorem eAgg_nm (x : List Int) : (eAgg rN).enc x = .agg (nm x) := rfl
end Go.Proofs.YtaadifodgahnjaaGreatDoor
namespace Go.Proofs.YtaadifodgahnjaaGreatDoor
open Go.RowKit Go.IntWalk
theorem str_add {a b : Bs} (h : a.length + b.length ≤ strMax) : binAV .add (.str a) (.str b) = some (.str (a ++ b)) := by
 simp only [binAV,strBin]
 simp
 unfold strMax at h ⊢
 omega
theorem u8_wrap {n : Nat} (h : n < 256) : IntKind.u8.wrap (n : Int) = n := by
 simp [IntKind.wrap,IntKind.signed,IntKind.bits]
 omega
theorem vtrunc_len {n : Nat} {fr : List (Nat × AV)} {h : Heap} (hl : h.length = n) : trunc n fr h = h := by
 subst hl
 unfold trunc
 split
 ·exact List.take_length
 ·rfl
end Go.Proofs.YtaadifodgahnjaaGreatDoor
namespace Go.Proofs.YtaadifodgahnjaaGreatDoor
open Go.RowKit Go.IntWalk
def F_Dec (k : Nat) : List AV → Option AV
 | [.int .i64 n] => if 0 ≤ n ∧ n < 10 ^ k then some (.str (Lib.decDigits n.toNat)) else none
 | _ => none
theorem Dec_ok {G : Gam} (k : Nat) (hk : k < 16) (hG : k = 0 ∨ G Fn.q45 = some (.pure (F_Dec k))) : ∀ args r,F_Dec (k + 1) args = some r → wpM G Mc.q45 (pureQ Rs.q45 r) [] (frInit Ks.q45 args) [] := by
 intro args r hF
 unfold F_Dec at hF
 split at hF
 ·rename_i n
  split at hF
  ·rename_i hn
   injection hF with hF; subst hF
   obtain ⟨m,rfl⟩ : ∃ m : Nat,n = m := ⟨n.toNat,by omega⟩
   have hm : m < 10 ^ (k + 1) := by
    have h2 := hn.2
    have : ((10 ^ (k + 1) : Nat) : Int) = (10 : Int) ^ (k + 1) := by simp
    omega
   have hsm : m < 10000000000000000 := Nat.lt_of_lt_of_le hm (by
    have := Nat.pow_le_pow_right (n := 10) (by omega) (show k + 1 ≤ 16 by omega)
    omega)
   simp only [Int.toNat_natCast]
   rw [wpM_go]
   by_cases h10 : m < 10
   ·have e1 : ltB (m : Int) 10 = true := ltB_iff.2 (by omega)
    have e2 : binAV .add (.int .i64 48) (.int .i64 m) = some (.int .i64 ((48 + m : Nat) : Int)) := by
     have : IntKind.i64.wrap (48 + (m : Int)) = ((48 + m : Nat) : Int) := by
      rw [show (48 : Int) + m = ((48 + m : Nat) : Int) by omega]; exact i64_small (by omega) (by omega)
     simp only [binAV,intBin]
     simp [this]
    rw [dec_small h10]
    obtain ⟨q,hq⟩ : ∃ q,q = 48 + m := ⟨_,rfl⟩
    rw [← hq] at e2 ⊢
    have e3 : IntKind.u8.wrap (q : Int) = q := u8_wrap (by omega)
    have e4 : bytesOfRows [[AV.int .u8 (q : Int)]] = some [UInt8.ofNat q] := by
     simp [bytesOfRows]; omega
    have e5 : opV G false [] .b2s (some [.tsl [[AV.int .u8 (q : Int)]]]) = some (.str [UInt8.ofNat q],[]) := by
     rw [opV_quiet rfl]
     simp [evalPure,rowsOf,e4]
    simp [Mc.q45,Ks.q45,frInit,upd,lkp,e1,e2,e3,e5,ownsL,owns,viewL,view,sizesOk,onesOk,oneC,AV.cells,pureQ,Rs.q45]
   ·have e1 : ltB (m : Int) 10 = false := ltB_not.2 (by omega)
    have hk0 : k ≠ 0 := fun e => by subst e; simp at hm; omega
    have hG := hG.resolve_left hk0
    have e2 : binAV .quo (.int .i64 m) (.int .i64 10) = some (.int .i64 ((m / 10 : Nat) : Int)) := by
     have e : ((m : Int).tdiv 10) = ((m / 10 : Nat) : Int) := by rw [Int.tdiv_eq_ediv_of_nonneg (by omega)]; omega
     have e2 : IntKind.i64.wrap ((m / 10 : Nat) : Int) = ((m / 10 : Nat) : Int) := i64_in _ ⟨by omega,by omega⟩
     simp only [binAV,intBin]
     simp only [reduceCtorEq,or_self,if_false,if_true,e,e2]
     simp
    have e3 : binAV .rem (.int .i64 m) (.int .i64 10) = some (.int .i64 ((m % 10 : Nat) : Int)) := by
     have e : ((m : Int).tmod 10) = ((m % 10 : Nat) : Int) := by rw [Int.tmod_eq_emod_of_nonneg (by omega)]; omega
     simp only [binAV,intBin]
     simp [e]
    obtain ⟨a,ha⟩ : ∃ a,a = m / 10 := ⟨_,rfl⟩
    obtain ⟨b,hb⟩ : ∃ b,b = m % 10 := ⟨_,rfl⟩
    rw [← ha] at e2
    rw [← hb] at e3
    have hpk : ((10 ^ k : Nat) : Int) = (10 : Int) ^ k := by simp
    have h10k : 10 ≤ 10 ^ k := by
     have := Nat.pow_le_pow_right (n := 10) (by omega) (show 1 ≤ k by omega)
     simpa using this
    have ha2 : a < 10 ^ k := by rw [Nat.pow_succ] at hm; omega
    have hb2 : b < 10 ^ k := by omega
    have c1 : ∀ st h,opV G st h (.call Fn.q45) (some [.int .i64 a]) = some (.str (Lib.decDigits a),h) := fun st h => op_call hG (us := [.int .i64 a]) rfl (by
     simp only [F_Dec]; rw [if_pos ⟨by omega,by omega⟩]; simp) (.inl rfl)
    have hb10 : b < 10 := by omega
    have e4 : binAV .add (.int .i64 48) (.int .i64 b) = some (.int .i64 ((48 + b : Nat) : Int)) := by
     have : IntKind.i64.wrap (48 + (b : Int)) = ((48 + b : Nat) : Int) := by
      rw [show (48 : Int) + b = ((48 + b : Nat) : Int) by omega]; exact i64_in _ ⟨by omega,by omega⟩
     simp only [binAV,intBin]
     simp [this]
    obtain ⟨q,hq⟩ : ∃ q,q = 48 + b := ⟨_,rfl⟩
    have e5 : IntKind.u8.wrap (q : Int) = q := u8_wrap (by omega)
    have e6 : bytesOfRows [[AV.int .u8 (q : Int)]] = some [UInt8.ofNat q] := by
     simp [bytesOfRows]; omega
    have e7 : ∀ st h,opV G st h .b2s (some [.tsl [[AV.int .u8 (q : Int)]]]) = some (.str [UInt8.ofNat q],h) := fun st h => by
     rw [opV_quiet rfl]
     simp [evalPure,rowsOf,e6]
    have eb : Lib.decDigits b = [UInt8.ofNat q] := by rw [hq]; exact dec_small hb10
    rw [← hq] at e4
    have l1 := dec_len k a ha2
    have s1 := str_add (a := Lib.decDigits a) (b := [UInt8.ofNat q]) (by unfold strMax; simp; omega)
    rw [dec_big h10,← ha,← hb,eb]
    simp [Mc.q45,Ks.q45,frInit,upd,lkp,e1,e2,e3,e4,e5,e7,c1,s1,ownsL,owns,viewL,view,sizesOk,onesOk,oneC,AV.cells,pureQ,Rs.q45]
  ·cases hF
 ·cases hF
end Go.Proofs.YtaadifodgahnjaaGreatDoor
