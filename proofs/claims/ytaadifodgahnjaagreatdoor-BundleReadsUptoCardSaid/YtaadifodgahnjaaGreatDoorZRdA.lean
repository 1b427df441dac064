/- Manifests: what is read of them,as the program and as the reference reads: plain laws. Small laws on cutting and splitting. Manifests: their lines and words,read by the program and by the reference. -/
import Derived.Test.YtaadifodgahnjaaGreatDoorZRmA
import Derived.Test.YtaadifodgahnjaaGreatDoorZRmD
import Derived.Lib.AtoiAll
import Derived.Test.YtaadifodgahnjaaGreatDoorZRmJ
import Derived.Test.YtaadifodgahnjaaGreatDoorZAm10
import Derived.Test.YtaadifodgahnjaaGreatDoorZRmI
import Derived.Test.YtaadifodgahnjaaGreatDoorZRecMc
namespace Go.Proofs.YtaadifodgahnjaaGreatDoor
open Go.RowKit Go.IntWalk
def rowsL : List Bs → Option (List (List Bs))
 | [] => none
 | [l] => if l = [] then some [] else none
 | l :: ls => if (splitBy 32 l).contains [] then none else (rowsL ls).map (splitBy 32 l :: ·)
def rowsE (s : Bs) : Option (List (List Bs)) := rowsL (splitBy 10 s)
def wordsL : List Bs → Option (List (List Bs) × Bool)
 | [] => none
 | [l] => some ([],decide (l = []))
 | l :: ls => if (splitBy 32 l).contains [] then none else (wordsL ls).map fun p => (splitBy 32 l :: p.1,p.2)
theorem words_rows : ∀ ls : List Bs,rowsL ls = (match wordsL ls with
 | some (l,true) => some l
 | _ => none)
 | [] => rfl
 | [l] => by by_cases h : l = [] <;> simp [rowsL,wordsL,h]
 | l :: m :: ls => by
  have ih := words_rows (m :: ls)
  simp only [rowsL,wordsL]
  split
  ·rfl
  ·rw [ih]
   cases wordsL (m :: ls) with
   | none => rfl
   | some p => obtain ⟨a,b⟩ := p; cases b <;> rfl
def wPaper : Bs := [112,97,112,101,114]
def wSource : Bs := [115,111,117,114,99,101]
structure Stand where
 np : Nat
 ns : Nat
 lp : Bs
 ls : Bs
def scanP (ok : List Bs → Bool) : Stand → List (List Bs) → Bool
 | _,[] => true
 | st,w :: r =>
  if w.headD [] = wPaper ∧ st.ns = 0 then
   (if ok w = false then false else if Op.bytesLess st.lp (w.getD 1 []) = false then false else if st.np = 64 then false else scanP ok { st with np := st.np + 1,lp := w.getD 1 [] } r)
  else if w.headD [] = wSource then
   (if ok w = false then false else if Op.bytesLess st.ls (w.getD 1 []) = false then false else if st.ns = 64 then false else scanP ok { st with ns := st.ns + 1,ls := w.getD 1 [] } r)
  else false
def scanR (ok : List Bs → Bool) : Nat → Nat → Bs → List (List Bs) → Bool
 | np,ns,_,[] => !(decide (64 < np) || decide (64 < ns))
 | np,ns,last,w :: r =>
  if ok w = false then false
  else if w.headD [] = wPaper ∧ ns = 0 then (if Op.bytesLess last (w.getD 1 []) = false then false else scanR ok (np + 1) ns (w.getD 1 []) r)
  else if w.headD [] = wSource then (if Op.bytesLess (if ns = 0 then [] else last) (w.getD 1 []) = false then false else scanR ok np (ns + 1) (w.getD 1 []) r)
  else false
theorem scanR_many (ok : List Bs → Bool) : ∀ (r : List (List Bs)) (np ns : Nat) (last : Bs),64 < np ∨ 64 < ns → scanR ok np ns last r = false
 | [],np,ns,last,h => by
  simp only [scanR]
  rcases h with h | h <;> simp [h]
 | w :: r,np,ns,last,h => by
  rw [scanR]
  split
  ·rfl
  ·split
   ·split
    ·rfl
    ·exact scanR_many ok r _ _ _ (by omega)
   ·split
    ·by_cases hl : Op.bytesLess (if ns = 0 then [] else last) (w.getD 1 []) = false
     ·rw [if_pos hl]
     ·rw [if_neg hl]; exact scanR_many ok r _ _ _ (by omega)
    ·rfl
theorem scan_eq (ok : List Bs → Bool) : ∀ (r : List (List Bs)) (st : Stand),st.np ≤ 64 → st.ns ≤ 64 → (st.ns = 0 → st.ls = []) → scanP ok st r = scanR ok st.np st.ns (if st.ns = 0 then st.lp else st.ls) r
 | [],st,h1,h2,h3 => by
  have a : ¬ 64 < st.np := by omega
  have b : ¬ 64 < st.ns := by omega
  simp [scanP,scanR,a,b]
 | w :: r,st,h1,h2,h3 => by
  rw [scanP,scanR]
  by_cases hp : w.headD [] = wPaper ∧ st.ns = 0
  ·rw [if_pos hp,if_pos hp,if_pos hp.2]
   by_cases hk : ok w = false
   ·rw [if_pos hk,if_pos hk]
   ·rw [if_neg hk,if_neg hk]
    by_cases hl : Op.bytesLess st.lp (w.getD 1 []) = false
    ·rw [if_pos hl,if_pos hl]
    ·rw [if_neg hl,if_neg hl]
     by_cases hn : st.np = 64
     ·rw [if_pos hn,scanR_many ok r _ _ _ (by omega)]
     ·rw [if_neg hn,scan_eq ok r { st with np := st.np + 1,lp := w.getD 1 [] } (by simp only; omega) h2 h3]
      simp only [hp.2,if_true]
  ·rw [if_neg hp,if_neg hp]
   by_cases hs : w.headD [] = wSource
   ·rw [if_pos hs,if_pos hs]
    by_cases hk : ok w = false
    ·rw [if_pos hk,if_pos hk]
    ·rw [if_neg hk,if_neg hk]
     have e : (if st.ns = 0 then ([] : Bs) else if st.ns = 0 then st.lp else st.ls) = st.ls := by
      split
      ·rename_i h0; exact (h3 h0).symm
      ·rfl
     rw [e]
     by_cases hl : Op.bytesLess st.ls (w.getD 1 []) = false
     ·rw [if_pos hl,if_pos hl]
     ·rw [if_neg hl,if_neg hl]
      by_cases hn : st.ns = 64
      ·rw [if_pos hn,scanR_many ok r _ _ _ (by omega)]
      ·rw [if_neg hn,scan_eq ok r { st with ns := st.ns + 1,ls := w.getD 1 [] } h1 (by simp only; omega) (by simp)]
       simp
   ·rw [if_neg hs,if_neg hs]
    split <;> rfl
theorem parse_dec : ∀ (s : Bs) (a v : Nat),0 < a → Lib.parseUint10 a s = .ok v → Lib.decDigits v = Lib.decDigits a ++ s
 | [],a,v,ha,h => by simp only [Lib.parseUint10] at h; injection h with h; subst h; simp
 | c :: r,a,v,ha,h => by
  simp only [Lib.parseUint10] at h
  split at h
  ·rename_i hc
   split at h
   ·cases h
   ·split at h
    ·cases h
    ·have ih := parse_dec r (a * 10 + (c.toNat - 48)) v (by omega) h
     rw [ih,dec_big (n := a * 10 + (c.toNat - 48)) (by omega)]
     rw [show (a * 10 + (c.toNat - 48)) / 10 = a by omega,show (a * 10 + (c.toNat - 48)) % 10 = c.toNat - 48 by omega,dec_small (n := c.toNat - 48) (by omega),show 48 + (c.toNat - 48) = c.toNat by omega]
     simp
  ·cases h
theorem dec_head : ∀ (k n : Nat),n < k → 0 < n → ∃ c r,Lib.decDigits n = c :: r ∧ 49 ≤ c.toNat ∧ c.toNat ≤ 57 ∧ (r = [] ↔ n < 10)
 | 0,n,h,_ => by omega
 | k + 1,n,h,h0 => by
  by_cases h1 : n < 10
  ·refine ⟨UInt8.ofNat (48 + n),[],dec_small h1,?_,?_,by simp [h1]⟩ <;> rw [UInt8.toNat_ofNat'] <;> omega
  ·obtain ⟨c,r,e,h2,h3,h4⟩ := dec_head k (n / 10) (by omega) (by omega)
   refine ⟨c,r ++ Lib.decDigits (n % 10),by rw [dec_big h1,e]; rfl,h2,h3,?_⟩
   rw [dec_small (n := n % 10) (by omega)]
   simp [h1]
theorem atoi_digit {c : UInt8} {r : Bs} (h : 48 ≤ c.toNat) : Lib.atoiAll (c :: r) = (match Lib.parseUint10 0 (c :: r) with
  | .range => .range
  | .ok u => if 9223372036854775808 ≤ u then .range else .ok (u : Int)
  | _ => Lib.atoiAll []) := by
 have h1 : (if c.toNat = 43 ∨ c.toNat = 45 then r else c :: r) = c :: r := if_neg (by omega)
 have h3 : ¬ c.toNat = 45 := by omega
 simp only [Lib.atoiAll,h1,Lib.parseMag]
 rw [if_neg (by simp)]
 cases Lib.parseUint10 0 (c :: r) with
 | ok u => simp [h3]
 | _ => rfl
theorem parse_snoc : ∀ (s : Bs) (a v : Nat) (c : UInt8),Lib.parseUint10 a s = .ok v → 48 ≤ c.toNat → c.toNat ≤ 57 → v < 1000000 → Lib.parseUint10 a (s ++ [c]) = .ok (v * 10 + (c.toNat - 48))
 | [],a,v,c,h,h1,h2,hv => by
  simp only [Lib.parseUint10] at h; injection h with h; subst h
  simp only [List.nil_append,Lib.parseUint10]
  rw [if_pos ⟨h1,h2⟩,if_neg (by omega),if_neg (by omega)]
 | x :: r,a,v,c,h,h1,h2,hv => by
  simp only [Lib.parseUint10] at h
  split at h
  ·rename_i hx
   split at h
   ·cases h
   ·rename_i q1
    split at h
    ·cases h
    ·rename_i q2
     have ih := parse_snoc r _ v c h h1 h2 hv
     simp only [List.cons_append,Lib.parseUint10]
     rw [if_pos hx,if_neg q1,if_neg q2,ih]
  ·cases h
theorem parse_digits : ∀ (k n : Nat),n < k → n < 1000000 → Lib.parseUint10 0 (Lib.decDigits n) = .ok n
 | 0,n,h,_ => by omega
 | k + 1,n,h,hn => by
  by_cases h1 : n < 10
  ·have e : (UInt8.ofNat (48 + n)).toNat = 48 + n := by rw [UInt8.toNat_ofNat']; omega
   rw [dec_small h1]
   simp only [Lib.parseUint10,e]
   rw [if_pos (by omega),if_neg (by omega),if_neg (by omega)]
   congr 1; omega
  ·have ih := parse_digits k (n / 10) (by omega) (by omega)
   have e : (UInt8.ofNat (48 + n % 10)).toNat = 48 + n % 10 := by rw [UInt8.toNat_ofNat']; omega
   rw [dec_big h1,dec_small (n := n % 10) (by omega)]
   rw [parse_snoc _ 0 (n / 10) _ ih (by rw [e]; omega) (by rw [e]; omega) (by omega),e]
   congr 1; omega
def sizeP (s : Bs) : Bool := match Lib.atoiAll s with
 | .ok v => decide (Lib.itoa v = s) && decide (0 ≤ v) && decide (v ≤ 65536)
 | _ => false
def sizeR (s : Bs) : Bool := decide (s ≠ []) && decide (s.length ≤ 5) && !(decide (1 < s.length) && (s.headD 0 == 48)) && (match Lib.parseUint10 0 s with
 | .ok v => decide (v ≤ 65536)
 | _ => false)
theorem dec_ne (n : Nat) : Lib.decDigits n ≠ [] := fun e => by
 have := dec_pos (n + 1) n (by omega)
 rw [e] at this; simp at this
theorem atoi_dec {n : Nat} (h : n < 1000000) : Lib.atoiAll (Lib.decDigits n) = .ok (n : Int) := by
 have hp := parse_digits (n + 1) n (by omega) h
 obtain ⟨c,r,e⟩ : ∃ c r,Lib.decDigits n = c :: r := by
  cases hd : Lib.decDigits n with
  | nil => exact absurd hd (dec_ne n)
  | cons c r => exact ⟨c,r,rfl⟩
 rw [e] at hp ⊢
 have hc : 48 ≤ c.toNat := by
  simp only [Lib.parseUint10] at hp
  split at hp
  ·rename_i hc; exact hc.1
  ·cases hp
 rw [atoi_digit hc,hp]
 simp only
 rw [if_neg (by omega)]
theorem sizeP_iff (s : Bs) : sizeP s = true ↔ ∃ n : Nat,n ≤ 65536 ∧ s = Lib.decDigits n := by
 constructor
 ·intro h
  unfold sizeP at h
  split at h
  ·rename_i v hv
   simp only [Bool.and_eq_true,decide_eq_true_eq] at h
   obtain ⟨⟨h1,h2⟩,h3⟩ := h
   exact ⟨v.toNat,by omega,by rw [← h1,itoa_dec h2]⟩
  ·cases h
 ·rintro ⟨n,hn,rfl⟩
  unfold sizeP
  rw [atoi_dec (by omega)]
  simp only [Bool.and_eq_true,decide_eq_true_eq]
  refine ⟨⟨?_,by omega⟩,by omega⟩
  rw [itoa_dec (by omega)]; simp
theorem sizeR_iff (s : Bs) : sizeR s = true ↔ ∃ n : Nat,n ≤ 65536 ∧ s = Lib.decDigits n := by
 constructor
 ·intro h
  simp only [sizeR,Bool.and_eq_true,decide_eq_true_eq,Bool.not_eq_true',Bool.and_eq_false_iff,decide_eq_false_iff_not] at h
  obtain ⟨⟨⟨h1,h2⟩,h3⟩,h4⟩ := h
  split at h4
  ·rename_i n hn
   simp only [decide_eq_true_eq] at h4
   refine ⟨n,h4,?_⟩
   match s,h1,h3,hn with
   | [],h1,_,_ => exact absurd rfl h1
   | c :: r,_,h3,hn =>
    simp only [Lib.parseUint10] at hn
    split at hn
    ·rename_i hc
     rw [if_neg (by omega),if_neg (by omega)] at hn
     rcases Nat.eq_or_lt_of_le hc.1 with h0 | h0
     ·rcases h3 with h5 | h5
      ·have : r = [] := List.eq_nil_of_length_eq_zero (by simp only [List.length_cons] at h5; omega)
       subst this
       simp only [Lib.parseUint10] at hn
       injection hn with hn; subst hn
       rw [dec_small (by omega),show 48 + (0 * 10 + (c.toNat - 48)) = c.toNat by omega]
       simp
      ·exfalso
       simp at h5
       exact h5 (UInt8.toNat_inj.1 (by simp; omega))
     ·have := parse_dec r _ n (by omega) hn
      rw [this,dec_small (by omega),show 48 + (0 * 10 + (c.toNat - 48)) = c.toNat by omega]
      simp
    ·cases hn
  ·cases h4
 ·rintro ⟨n,hn,rfl⟩
  have hp := parse_digits (n + 1) n (by omega) (by omega)
  have hl : (Lib.decDigits n).length ≤ 5 := by
   by_cases h : n < 10
   ·rw [dec_small h]; simp
   ·have h1 : ∀ (k m : Nat),m < 10 ^ (k + 1) → (Lib.decDigits m).length ≤ k + 1 := by
     intro k
     induction k with
     | zero => intro m hm; rw [dec_small (by simpa using hm)]; simp
     | succ k ih =>
      intro m hm
      by_cases h1 : m < 10
      ·rw [dec_small h1]; simp
      ·rw [dec_big h1,dec_small (n := m % 10) (by omega)]
       have := ih (m / 10) (by rw [Nat.pow_succ] at hm; omega)
       simp; omega
    exact h1 4 n (by omega)
  have h0 : (!(decide (1 < (Lib.decDigits n).length) && ((Lib.decDigits n).headD 0 == 48))) = true := by
   by_cases hz : n = 0
   ·subst hz; rw [dec_small (by omega)]; decide
   ·obtain ⟨c,r,e,c1,c2,_⟩ := dec_head (n + 1) n (by omega) (by omega)
    rw [e]
    have hcc : ¬ c = 48 := fun e => by subst e; simp at c1
    simp [hcc]
  unfold sizeR
  rw [h0,hp]
  simp [dec_ne,hl,hn]
theorem size_eq (s : Bs) : sizeP s = sizeR s := by
 rw [Bool.eq_iff_iff,sizeP_iff,sizeR_iff]
end Go.Proofs.YtaadifodgahnjaaGreatDoor
namespace Go.Proofs.YtaadifodgahnjaaGreatDoor
open Go.RowKit Go.IntWalk
theorem index_one (c : UInt8) : ∀ s : Bs,(c ∈ s → ∃ a b,s = a ++ c :: b ∧ c ∉ a ∧ Lib.cut s [c] = (a,b,true)) ∧ (c ∉ s → Lib.cut s [c] = (s,[],false)) := by
 intro s
 refine ⟨fun h => ?_,fun h => ?_⟩
 ·rcases Lib.index_spec s [c] with ⟨h1,h2⟩ | ⟨i,h1,h2,h3,h4⟩
  ·obtain ⟨j,hj,hjc⟩ := List.mem_iff_getElem.1 h
   have := h2 j (by omega)
   simp only [Lib.occAt,List.drop_eq_getElem_cons hj,hjc] at this
   simp at this
  ·have hr := Lib.index_room s [c] (by omega)
   rw [h1] at hr
   have hi : i < s.length := by simp at hr; omega
   have hd := List.drop_eq_getElem_cons hi
   have hc : s[i] = c := by
    simp only [Lib.occAt,hd] at h3
    have h5 : c = s[i] := by simpa [List.isPrefixOf] using h3
    exact h5.symm
   refine ⟨s.take i,s.drop (i + 1),?_,?_,?_⟩
   ·conv => lhs; rw [← List.take_append_drop i s,hd,hc]
   ·intro hm
    obtain ⟨j,hj,hjc⟩ := List.mem_iff_getElem.1 hm
    have hj2 : j < i := by simp at hj; omega
    have := h4 j hj2
    simp only [List.getElem_take] at hjc
    simp only [Lib.occAt,List.drop_eq_getElem_cons (show j < s.length by omega),hjc] at this
    simp at this
   ·unfold Lib.cut
    rw [if_pos (by rw [h1]; omega),h1]; simp
 ·rcases Lib.index_spec s [c] with ⟨h1,h2⟩ | ⟨i,h1,h2,h3,h4⟩
  ·unfold Lib.cut
   rw [if_neg (by rw [h1]; omega)]
  ·exfalso
   have hr := Lib.index_room s [c] (by omega)
   rw [h1] at hr
   have hi : i < s.length := by simp at hr; omega
   have hd := List.drop_eq_getElem_cons hi
   simp only [Lib.occAt,hd] at h3
   have hc : c = s[i] := by simpa [List.isPrefixOf] using h3
   exact h (by rw [hc]; exact List.getElem_mem hi)
theorem splitBy_mid (c : UInt8) : ∀ (a b : Bs),c ∉ a → splitBy c (a ++ c :: b) = a :: splitBy c b
 | [],b,_ => by simp [splitBy]
 | x :: a,b,h => by
  have hx : x ≠ c := fun e => h (by simp [e])
  have := splitBy_mid c a b (fun e => h (by simp [e]))
  simp [splitBy,hx,this]
theorem splitBy_none (c : UInt8) : ∀ (a : Bs),c ∉ a → splitBy c a = [a]
 | [],_ => by simp [splitBy]
 | x :: a,h => by
  have hx : x ≠ c := fun e => h (by simp [e])
  have := splitBy_none c a (fun e => h (by simp [e]))
  simp [splitBy,hx,this]
theorem splitBy_mem (c : UInt8) : ∀ (s : Bs) (w : Bs),w ∈ splitBy c s → w.length ≤ s.length
 | [],w,h => by simp [splitBy] at h; subst h; simp
 | b :: r,w,h => by
  have ih := splitBy_mem c r
  unfold splitBy at h
  split at h
  ·rcases List.mem_cons.1 h with rfl | h
   ·simp
   ·have := ih w h; simp; omega
  ·cases hs : splitBy c r with
   | nil => exact absurd hs (splitBy_ne c r)
   | cons x xs =>
    simp only [hs] at h
    rcases List.mem_cons.1 h with rfl | h
    ·have := ih x (by rw [hs]; simp); simp; omega
    ·have := ih w (by rw [hs]; simp [h]); simp; omega
theorem idx_nonneg (x : Bs) : ∀ (xs : List Bs) (i : Nat),(!ltB (idxFrom x i xs) 0) = xs.contains x
 | [],i => by simp [idxFrom,ltB]
 | y :: r,i => by
  simp only [idxFrom,List.contains_cons]
  by_cases h : x = y
  ·subst h; simp [ltB]
  ·have := idx_nonneg x r (i + 1)
   simp [h,this]
end Go.Proofs.YtaadifodgahnjaaGreatDoor
namespace Go.Proofs.YtaadifodgahnjaaGreatDoor
open Go.RowKit Go.IntWalk
def rowW (w : List Bs) : List AV := [.sl (w.map rStr.enc)]
def resRows (o : Option (List (List Bs))) : AV := match o with
 | some l => .tup [.sl (l.map rowW),.bool true]
 | none => .tup [.sl [],.bool false]
def F_rows : List AV → Option AV
 | [.str s] => if s.length < 4294967281 then some (resRows (rowsE s)) else none
 | _ => none
theorem rowsE_mid {l rest : Bs} (hl : (10 : UInt8) ∉ l) : rowsE (l ++ 10 :: rest) = if (splitBy 32 l).contains [] then none else (rowsE rest).map (splitBy 32 l :: ·) := by
 unfold rowsE
 rw [splitBy_mid 10 l rest hl]
 obtain ⟨x,xs,e⟩ : ∃ x xs,splitBy 10 rest = x :: xs := by
  cases h : splitBy 10 rest with
  | nil => exact absurd h (splitBy_ne 10 rest)
  | cons x xs => exact ⟨x,xs,rfl⟩
 rw [e]; rfl
section
variable {G : Gam} {h : Heap}
theorem op_split1 (hS : G Fn.q65 = some (.pure F_Split)) {l : Bs} {c : UInt8} (hl : l.length < 4294967281) : ∀ st h,opV G st h (.call Fn.q65) (some [.str l,.str [c]]) = some (.sl ((splitBy c l).map rStr.enc),h) := fun st h =>
 op_call hS rfl (F2_use (A := eStr) (B := eStr) (R := eSl rStr) (x := l) (y := [c]) (by simp only [hl,if_true])) (.inr rfl)
theorem op_has (hK : G Fn.q14 = some (.pure F_ContainsS)) {ws : List Bs} {x : Bs} (hl : ws.length ≤ big) : ∀ st h,opV G st h (.call Fn.q14) (some [.sl (ws.map rStr.enc),.str x]) = some (.bool (ws.contains x),h) := fun st h =>
 op_call hK rfl (by
  have hd := decRows_de rStr ws
  have e : decStrs (ws.map rStr.enc) = some ws := by
   clear hd hl
   induction ws with
   | nil => rfl
   | cons w r ih => simp [decStrs] at ih ⊢; simpa using ih
  simp only [F_ContainsS,e,hl,if_true,idx_nonneg]) (.inl rfl)
end
theorem rows_L0 (G : Gam) (hC : G Fn.strings_Cut = some (.pure F_Cut)) (hS : G Fn.q65 = some (.pure F_Split)) (hK : G Fn.q14 = some (.pure F_ContainsS)) (fin : Option (List (List Bs))) :
  ∀ (m : Nat) (s : Bs) (os : List (List Bs)),s.length ≤ m → s.length + os.length < 4294967281 → fin = (rowsE s).map (os ++ ·) →
  headM G [5,6,7,8] Mc.bundle_rows_L0 2 [.blk 0,.seq (.seq (.reg [⟨none,some 30,false,.mv,[.t 4]⟩,⟨none,some 2,true,.mv,[.t 30]⟩,⟨none,some 3,true,.mv,[.c (.bool true)]⟩]) .ret)] (pureQ Rs.bundle_rows (resRows fin))
   [(0,.str s),(2,.own 0 0 0),(3,.bool false),(4,.own 1 os.length os.length),(5,.junk),(6,.junk),(7,.junk),(8,.junk)] [.arr 1 0 [] true,.arr 1 os.length (os.map rowW) true]
 | m,s,os,hm,hsz,hfin => by
  refine head_go (Mc.bundle_rows_L0.eq_1) ?_
  have htr : ∀ fr,lowFr 2 fr = true → trunc 2 fr [Blk.arr 1 0 [] true,.arr 1 os.length (os.map rowW) true] = [.arr 1 0 [] true,.arr 1 os.length (os.map rowW) true] := fun fr hf => by
   unfold trunc; rw [hf]; rfl
  rw [htr _ rfl]
  have hro : rowsOf [Blk.arr 1 0 [] true,.arr 1 os.length (os.map rowW) true] (.own 1 os.length os.length) = some (os.map rowW) := rows_own (l := 1) rfl (by simp)
  by_cases hs0 : s = []
  ·subst hs0
   have hf : fin = some os := by rw [hfin]; simp [rowsE,splitBy,rowsL]
   subst hf
   simp [resRows,pureQ,Rs.bundle_rows,hro]
  ·have hsb : (s == []) = false := by simpa using hs0
   have c1 : ∀ st h,opV G st h (.call Fn.strings_Cut) (some [.str s,.str [10]]) = some (.tup [.str (Lib.cut s [10]).1,.str (Lib.cut s [10]).2.1,.bool (Lib.cut s [10]).2.2],h) := fun st h => op_call hC (us := [.str s,.str [10]]) rfl (by
    simp only [F_Cut]; rw [if_pos (by omega)]) (.inl rfl)
   have fail : ∀ (a b : Blk),rowsOf [a,b,.arr 1 0 [] true] (.own 2 0 0) = some [] := fun a b => rfl
   by_cases hin : (10 : UInt8) ∈ s
   ·obtain ⟨l,rest,rfl,hl,hcut⟩ := (index_one 10 s).1 hin
    rw [hcut] at c1
    simp only at c1
    simp only [List.length_append,List.length_cons] at hm hsz
    have c2 := op_split1 (G := G) hS (l := l) (c := 32) (by omega)
    have c3 := op_has (G := G) hK (ws := splitBy 32 l) (x := []) (by have := splitBy_len 32 l; unfold big; omega)
    rw [rowsE_mid hl] at hfin
    cases hc : (splitBy 32 l).contains ([] : Bs) with
    | true =>
     have hf : fin = none := by rw [hfin,hc]; rfl
     subst hf
     rw [hc] at c3
     simp [hsb,c1,c2,c3,resRows,pureQ,Rs.bundle_rows,fail]
    | false =>
     rw [hc] at c3 hfin
     obtain ⟨m,rfl⟩ : ∃ m',m = m' + 1 := ⟨m - 1,by omega⟩
     have ap := op_app1 (G := G) (s := false) (h := [.arr 1 0 [] true,.arr 1 os.length (os.map rowW) true]) (e := rowW) (n := 1) (b := 24) (l := 1) (os := os) (x := splitBy 32 l) rfl rfl (by omega) (by unfold big; omega)
     simp only [rowW] at ap
     have ih := rows_L0 G hC hS hK fin m rest (os ++ [splitBy 32 l]) (by omega) (by simp; omega) (by
      rw [hfin]
      cases rowsE rest with
      | none => rfl
      | some r => simp)
     simp [hsb,c1,c2,c3,ownsL,owns,viewL,view,sizesOk,onesOk,oneC,ap,-List.length_append,-List.map_append]
     refine head_of ?_
     simpa [junkAll,trunc,rowW] using ih
   ·have hcut := (index_one 10 s).2 hin
    rw [hcut] at c1
    simp only at c1
    have c2 := op_split1 (G := G) hS (l := s) (c := 32) (by omega)
    have hf : fin = none := by rw [hfin]; unfold rowsE; rw [splitBy_none 10 s hin]; simp [rowsL,hs0]
    subst hf
    simp [hsb,c1,c2,resRows,pureQ,Rs.bundle_rows,fail]
theorem rows_ok {G : Gam} (hC : G Fn.strings_Cut = some (.pure F_Cut)) (hS : G Fn.q65 = some (.pure F_Split)) (hK : G Fn.q14 = some (.pure F_ContainsS)) : ∀ args r,F_rows args = some r → wpM G Mc.bundle_rows (pureQ Rs.bundle_rows r) [] (frInit Ks.bundle_rows args) [] := by
 intro args r hF
 unfold F_rows at hF
 split at hF
 ·rename_i s
  split at hF
  ·rename_i hb
   injection hF with hF; subst hF
   have ih := rows_L0 G hC hS hK (rowsE s) s.length s [] (Nat.le_refl _) (by simpa using hb) (by cases rowsE s <;> simp)
   rw [wpM_go]
   simp [Mc.bundle_rows,Ks.bundle_rows,frInit]
   simpa using ih
  ·cases hF
 ·cases hF
end Go.Proofs.YtaadifodgahnjaaGreatDoor
namespace Go.Proofs.YtaadifodgahnjaaGreatDoor
open Go.RowKit Go.IntWalk
theorem split46_L0 (G : Gam) (s : Bs) (c : UInt8) (hs : s.length ≤ 1000000) : ∀ (rest : Bs) (i f : Nat) (os : List Bs),s.drop i = rest → i ≤ s.length → f ≤ i → os.length ≤ i → splitBy c s = os ++ preP ((s.take i).drop f) (splitBy c rest) →
  headM G [] Mc.q49_L0 2 [.blk 0,.seq (.seq (.reg [⟨none,some 34,false,.mv,[.t 5]⟩,⟨none,some 4,true,.mv,[.t 34]⟩]) .ret)] (pureQ Rs.q49 (.sl ((splitBy c s).map sRow)))
   [(0,.str s),(1,.int .u8 c.toNat),(4,.own 0 0 0),(5,.own 1 os.length os.length),(6,.int .i64 f),(7,.int .i64 i)] (SpH os)
 | [],i,f,os,hd,hi,hf,ho,hr => by
  have hi2 := drop_nil hd
  have e : i = s.length := by omega
  subst e
  have hl : ltB (s.length : Int) (s.length : Int) = false := ltB_not.2 (by omega)
  have hl2 : ltB (s.length : Int) ((s.length : Int) + 1) = true := ltB_iff.2 (by omega)
  have hw : IntKind.i64.wrap ((s.length : Int) + 1) = ((s.length : Nat) : Int) + 1 := by have := wrap1 (i := s.length) (by unfold big; omega); simpa using this
  have sl : ∀ st h,opV G st h (.slc none true true false) (some [.str s,.int .i64 f,.int .i64 s.length]) = some (.str ((s.take s.length).drop f),h) := fun st h => slc_both rfl rfl hf hi
  rw [List.take_length] at sl hr
  have ap := sp_app (G := G) os (s.drop f) (by unfold big; omega)
  have hr2 : splitBy c s = os ++ [s.drop f] := by simpa [splitBy,preP] using hr
  rw [hr2]
  have vw : rowsOf (SpH (os ++ [s.drop f])) (.own 1 (os ++ [s.drop f]).length (os ++ [s.drop f]).length) = some ((os ++ [s.drop f]).map sRow) :=
   rows_own (h := SpH (os ++ [s.drop f])) (l := 1) (sz := 1) (rows := (os ++ [s.drop f]).map sRow) (wr := true) rfl (by simp)
  refine head_go (Mc.q49_L0.eq_1) ?_
  rw [vtrunc_len (n := 2) rfl]
  simp [lenAV,sl,ownsL,owns,viewL,view,sizesOk,onesOk,oneC,AV.cells,ap,hw,-List.length_append,-List.map_append]
  refine head_of ?_
  refine head_go (Mc.q49_L0.eq_1) ?_
  simp only [vtrunc_len (n := 2) (show (SpH _).length = 2 from rfl)]
  simp [lenAV,hl2,vw,pureQ,Rs.q49,-List.length_append,-List.map_append]
 | b :: rest,i,f,os,hd,hi,hf,ho,hr => by
  obtain ⟨hlt,hx,hxd⟩ := drop_cons hd
  have hl : ltB (s.length : Int) (i : Int) = false := ltB_not.2 (by omega)
  have q0 : eqB (i : Int) (s.length : Int) = false := eqB_not.2 (by omega)
  have hw : IntKind.i64.wrap ((i : Int) + 1) = ((i + 1 : Nat) : Int) := wrap1 (by unfold big; omega)
  have is : ∀ st h,opV G st h .istr (some [.str s,.int .i64 i]) = some (.int .u8 b.toNat,h) := fun st h => op_istr hx
  refine head_go (Mc.q49_L0.eq_1) ?_
  rw [vtrunc_len (n := 2) rfl]
  by_cases hbc : b = c
  ·subst hbc
   rw [split_hit] at hr
   have sl : ∀ st h,opV G st h (.slc none true true false) (some [.str s,.int .i64 f,.int .i64 i]) = some (.str ((s.take i).drop f),h) := fun st h => slc_both rfl rfl hf hi
   have ap := sp_app (G := G) os ((s.take i).drop f) (by unfold big; omega)
   have hr2 : splitBy b s = (os ++ [(s.take i).drop f]) ++ preP ((s.take (i + 1)).drop (i + 1)) (splitBy b rest) := by
    have e : (s.take (i + 1)).drop (i + 1) = [] := by rw [List.drop_eq_nil_iff,List.length_take]; omega
    rw [e,preP_nil _ (splitBy_ne b rest),hr]; simp
   have ih := split46_L0 G s b hs rest (i + 1) (i + 1) (os ++ [(s.take i).drop f]) hxd (by omega) (by omega) (by simp; omega) hr2
   simp [lenAV,hl,q0,is,sl,ownsL,owns,viewL,view,sizesOk,onesOk,oneC,AV.cells,ap,hw,-List.length_append]
   refine head_of ?_
   simpa [vtrunc_len (n := 2) (show (SpH _).length = 2 from rfl)] using ih
  ·have q : eqB (b.toNat : Int) (c.toNat : Int) = false := eqB_not.2 fun e => hbc (UInt8.toNat_inj.1 (by omega))
   rw [split_step hbc] at hr
   have hr2 : splitBy c s = os ++ preP ((s.take (i + 1)).drop f) (splitBy c rest) := by rw [take_drop_snoc hf hx]; exact hr
   have ih := split46_L0 G s c hs rest (i + 1) f os hxd (by omega) (by omega) (by omega) hr2
   simp [lenAV,hl,q0,is,q,hw]
   refine head_of ?_
   simpa [vtrunc_len (n := 2) (show (SpH _).length = 2 from rfl)] using ih
theorem split46_ok {G : Gam} : ∀ args r,F_Split03 args = some r → wpM G Mc.q49 (pureQ Rs.q49 r) [] (frInit Ks.q49 args) [] := by
 intro args r hF
 unfold F_Split03 at hF
 split at hF
 ·rename_i s e
  split at hF
  ·rename_i hc
   injection hF with hF; subst hF
   obtain ⟨h1,h2,h3⟩ := hc
   obtain ⟨E,hE⟩ : ∃ E : UInt8,e = (E.toNat : Int) := ⟨UInt8.ofNat e.toNat,by rw [UInt8.toNat_ofNat']; omega⟩
   subst hE
   have eE : UInt8.ofNat ((E.toNat : Int)).toNat = E := by simp
   rw [eE,wpM_go]
   have ih := split46_L0 G s E h1 s 0 0 [] rfl (by omega) (by omega) (by simp) (by simp [preP_nil _ (splitBy_ne E s)])
   simpa [Mc.q49,frInit,Ks.q49,SpH] using ih
  ·cases hF
 ·cases hF
theorem has46_L0 (G : Gam) (xs : List Bs) (s : Bs) (hb : xs.length ≤ big) : ∀ (rest : List Bs) (i : Nat),xs.drop i = rest → i + rest.length = xs.length →
  headM G [] Mc.q61_L0 0 [.blk 0,.seq (.seq (.reg [⟨none,some 4,true,.mv,[.c (.bool false)]⟩]) .ret)] (pureQ Rs.q61 (.bool (rest.contains s)))
  [(0,.sl (encStrs xs)),(1,.str s),(4,.bool false),(5,.int .i64 i)] []
 | [],i,hd,hn => by
  refine head_go (Mc.q61_L0.eq_1) ?_
  simp at hn
  have hl : ltB (i : Int) (xs.length : Int) = false := ltB_not.2 (by omega)
  have hle : (encStrs xs).length = xs.length := by simp [encStrs]
  simp [junkAll,trunc,lowFr,low,lowH,hl,hle,pureQ,Rs.q61,resAV,resL,resOne,view]
 | x :: rest,i,hd,hn => by
  refine head_go (Mc.q61_L0.eq_1) ?_
  simp at hn
  have hl : ltB (i : Int) (xs.length : Int) = true := ltB_iff.2 (by omega)
  have hle : (encStrs xs).length = xs.length := by simp [encStrs]
  have hx : xs[i]? = some x := by have := congrArg (·[0]?) hd; simpa using this
  have hxd : xs.drop (i + 1) = rest := by rw [← List.drop_drop,hd]; rfl
  have hw : IntKind.i64.wrap ((i : Int) + 1) = ((i + 1 : Nat) : Int) := wrap1 (by unfold big at hb ⊢; omega)
  by_cases he : x = s
  ·subst he
   have hbe : (x == x) = true := by simp
   simp [junkAll,trunc,lowFr,low,lowH,hl,hle,iadr_sl (encStrs_get hx),cut,strBin,pureQ,Rs.q61,resAV,resL,resOne,view]
  ·have hbe : (x == s) = false := by simp [he]
   have hbe2 : (s == x) = false := by simp [Ne.symm he]
   have ih := has46_L0 G xs s hb rest (i + 1) hxd (by omega)
   simp [junkAll,trunc,lowFr,low,lowH,hl,hle,iadr_sl (encStrs_get hx),cut,strBin,hbe,hw]
   refine head_of ?_
   have hne : ¬ s = x := fun e => he e.symm
   simpa [junkAll,trunc,lowFr,low,lowH,lowB,hne] using ih
theorem has46_ok (G : Gam) : ∀ args r,F_ContainsS args = some r → wpM G Mc.q61 (pureQ Rs.q61 r) [] (frInit Ks.q61 args) [] := by
 intro args r h
 unfold F_ContainsS at h
 split at h
 ·rename_i a s
  split at h
  ·rename_i xs h1
   have := decStrs_of h1; subst this
   split at h
   ·rename_i hb
    injection h with h; subst h
    rw [idx_nonneg,wpM_go]
    have ih := has46_L0 G xs s hb xs 0 rfl (by simp)
    simpa [Mc.q61,frInit,Ks.q61] using ih
   ·cases h
  ·cases h
 ·cases h
def resWords (o : Option (List (List Bs) × Bool)) : AV := match o with
 | some p => .tup [.sl (p.1.map rowW),.bool p.2]
 | none => .tup [.sl [],.bool false]
def wordsE (s : Bs) : Option (List (List Bs) × Bool) := wordsL (splitBy 10 s)
def F_words : List AV → Option AV
 | [.str s] => if s.length ≤ 1000000 then some (resWords (wordsE s)) else none
 | _ => none
theorem words_L0 {s : Bs} (G : Gam) (hS : G Fn.q49 = some (.pure F_Split03)) (hK : G Fn.q61 = some (.pure F_ContainsS)) (ls : List Bs) (hls : ls.length ≤ 1000001) (hlen : ∀ l ∈ ls,l.length ≤ 1000000) (fin : Option (List (List Bs) × Bool)) :
  ∀ (rest : List Bs) (i : Nat) (os : List (List Bs)),rest ≠ [] → ls.drop i = rest → os.length = i → fin = (wordsL rest).map (fun p => (os ++ p.1,p.2)) →
  headM G [7] Mc.q45_L0 2 [.blk 0,.seq (.seq (.rgd [⟨none,some 28,false,.mv,[.t 5]⟩,⟨none,some 29,false,.mv,[.t 4]⟩,⟨none,some 30,false,.mv,[.t 4]⟩,⟨none,some 31,false,.len 1,[.t 30]⟩,⟨none,some 32,false,.bin .sub,[.t 31,.c (.int .i64 1)]⟩,
   ⟨none,some 33,false,.iadr 1,[.t 29,.t 32]⟩,⟨none,some 34,false,.ld 1 false,[.t 33]⟩,⟨none,some 35,false,.bin .eql,[.t 34,.c (.str [])]⟩,⟨none,some 2,true,.mv,[.t 28]⟩,⟨none,some 3,true,.mv,[.t 35]⟩]) .ret)] (pureQ Rs.q45 (resWords fin))
   [(0,.str s),(2,.own 0 0 0),(3,.bool false),(4,.sl (ls.map sRow)),(5,.own 1 os.length os.length),(6,.int .i64 i),(7,.junk)] [.arr 1 0 [] true,.arr 1 os.length (os.map rowW) true]
 | [],i,os,hne,hd,ho,hfin => absurd rfl hne
 | [z],i,os,hne,hd,ho,hfin => by
  obtain ⟨hlt,hx,hxd⟩ := drop_cons hd
  have hi : i + 1 = ls.length := by have := congrArg List.length hd; simp at this; omega
  have hw : IntKind.i64.wrap ((i : Int) + 1) = ((i : Int) + 1) := by have := wrap1 (i := i) (by unfold big; omega); simpa using this
  have hl : ltB ((i : Int) + 1) (ls.length : Int) = false := ltB_not.2 (by omega)
  have hs1 : IntKind.i64.wrap ((ls.length : Int) - 1) = (i : Int) := by rw [i64_in _ (by omega)]; omega
  have hro : rowsOf [Blk.arr 1 0 [] true,.arr 1 os.length (os.map rowW) true] (.own 1 os.length os.length) = some (os.map rowW) := rows_own (l := 1) rfl (by simp)
  have hia : ∀ h,iadrAV 1 h (.sl (ls.map sRow)) (.int .i64 i) = some (.fptr [.str z] 0) := fun h => iadr_sl (row := [.str z]) (by simp [hx,sRow]) rfl
  have hf : fin = some (os,decide (z = [])) := by rw [hfin]; simp [wordsL]
  subst hf
  refine head_go (Mc.q45_L0.eq_1) ?_
  have htr : ∀ fr,lowFr 2 fr = true → trunc 2 fr [Blk.arr 1 0 [] true,.arr 1 os.length (os.map rowW) true] = [.arr 1 0 [] true,.arr 1 os.length (os.map rowW) true] := fun fr hf => by
   unfold trunc; rw [hf]; rfl
  rw [htr _ rfl]
  simp [hw,hl,hs1,hia,resWords,pureQ,Rs.q45,hro]
  by_cases hz : z = [] <;> simp [hz]
 | l :: l2 :: rest,i,os,hne,hd,ho,hfin => by
  obtain ⟨hlt,hx,hxd⟩ := drop_cons hd
  have hlt2 : i + 1 < ls.length := by have := congrArg List.length hd; simp at this; omega
  have hw : IntKind.i64.wrap ((i : Int) + 1) = ((i : Int) + 1) := by have := wrap1 (i := i) (by unfold big; omega); simpa using this
  have hlb : ltB ((i : Int) + 1) (ls.length : Int) = true := ltB_iff.2 (by omega)
  have hl := hlen l (List.mem_of_getElem? hx)
  have hia : ∀ h,iadrAV 1 h (.sl (ls.map sRow)) (.int .i64 i) = some (.fptr [.str l] 0) := fun h => iadr_sl (row := [.str l]) (by simp [hx,sRow]) rfl
  have c1 : ∀ st h,opV G st h (.call Fn.q49) (some [.str l,.int .u8 32]) = some (.sl ((splitBy 32 l).map sRow),h) := fun st h => op_call hS rfl (by simp only [F_Split03]; rw [if_pos ⟨hl,by omega,by omega⟩]; rfl) (.inr rfl)
  have c2 : ∀ st h,opV G st h (.call Fn.q61) (some [.sl ((splitBy 32 l).map sRow),.str []]) = some (.bool ((splitBy 32 l).contains []),h) := by
   have := op_has (G := G) (h := []) (ws := splitBy 32 l) (x := [])
   intro st h
   refine op_call hK rfl ?_ (.inl rfl)
   have e : decStrs ((splitBy 32 l).map sRow) = some (splitBy 32 l) := by
    generalize splitBy 32 l = ws
    induction ws with
    | nil => rfl
    | cons w r ih => simp [decStrs,sRow] at ih ⊢; simpa using ih
   have hbl : (splitBy 32 l).length ≤ big := by have := splitBy_len 32 l; unfold big; omega
   simp only [F_ContainsS,e,hbl,if_true,idx_nonneg]
  have htr : ∀ fr,lowFr 2 fr = true → trunc 2 fr [Blk.arr 1 0 [] true,.arr 1 os.length (os.map rowW) true] = [.arr 1 0 [] true,.arr 1 os.length (os.map rowW) true] := fun fr hf => by
   unfold trunc; rw [hf]; rfl
  have fail : ∀ (a b : Blk),rowsOf [a,b,.arr 1 0 [] true] (.own 2 0 0) = some [] := fun a b => rfl
  refine head_go (Mc.q45_L0.eq_1) ?_
  rw [htr _ rfl]
  simp only [wordsL] at hfin
  cases hc : (splitBy 32 l).contains ([] : Bs) with
  | true =>
   rw [hc] at c2 hfin
   have hf : fin = none := by rw [hfin]; rfl
   subst hf
   simp [hw,hlb,hia,c1,c2,resWords,pureQ,Rs.q45,fail]
  | false =>
   rw [hc] at c2 hfin
   have ap := op_app1 (G := G) (s := false) (h := [.arr 1 0 [] true,.arr 1 os.length (os.map rowW) true]) (e := rowW) (n := 1) (b := 24) (l := 1) (os := os) (x := splitBy 32 l) rfl rfl (by omega) (by unfold big; omega)
   have er : ∀ ws : List Bs,ws.map sRow = ws.map rStr.enc := fun _ => rfl
   simp only [rowW,← er] at ap
   have ih := words_L0 (s := s) G hS hK ls hls hlen fin (l2 :: rest) (i + 1) (os ++ [splitBy 32 l]) (by simp) hxd (by simp [ho]) (by
    rw [hfin]
    cases wordsL (l2 :: rest) with
    | none => rfl
    | some r => simp)
   simp [hw,hlb,hia,c1,c2,ownsL,owns,viewL,view,sizesOk,onesOk,oneC,ap,-List.length_append,-List.map_append]
   refine head_of ?_
   simpa [junkAll,trunc,rowW,← er] using ih
theorem words_ok {G : Gam} (hS : G Fn.q49 = some (.pure F_Split03)) (hK : G Fn.q61 = some (.pure F_ContainsS)) : ∀ args r,F_words args = some r → wpM G Mc.q45 (pureQ Rs.q45 r) [] (frInit Ks.q45 args) [] := by
 intro args r hF
 unfold F_words at hF
 split at hF
 ·rename_i s
  split at hF
  ·rename_i hb
   injection hF with hF; subst hF
   have c1 : ∀ st h,opV G st h (.call Fn.q49) (some [.str s,.int .u8 10]) = some (.sl ((splitBy 10 s).map sRow),h) := fun st h => op_call hS rfl (by simp only [F_Split03]; rw [if_pos ⟨hb,by omega,by omega⟩]; rfl) (.inr rfl)
   have ih := words_L0 (s := s) G hS hK (splitBy 10 s) (by have := splitBy_len 10 s; omega) (fun l hl => by have := splitBy_mem 10 s l hl; omega) (wordsE s) (splitBy 10 s) 0 [] (splitBy_ne 10 s) rfl rfl (by unfold wordsE; cases wordsL (splitBy 10 s) <;> simp)
   rw [wpM_go]
   simp [Mc.q45,Ks.q45,frInit,c1]
   simpa using ih
  ·cases hF
 ·cases hF
end Go.Proofs.YtaadifodgahnjaaGreatDoor
