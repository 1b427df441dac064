/- The reference: parts of names,paths. digest.Parse walked. The library's functions on strings,turned from the shelf: Atoi,Cut,IndexByte,HasPrefix,Clone,Contains,Count,Compare. The reference: t -/
import Derived.Test.YtopiadllkglamaaGreatDoorWRmD
import Derived.Lib.AtoiAll
import Derived.Shelf.Strings.Cut
import Derived.Test.YtopiadllkglamaaGreatDoorWRmB
import Derived.Test.YtopiadllkglamaaGreatDoorWAm10
import Derived.Lib.AtoiErrMem
import Derived.Lib.LaidTab
import Derived.Lib.Bytealg
import Derived.Lib.IndexMore
namespace Go.Proofs.YtopiadllkglamaaGreatDoor
open Go.RowKit Go.IntWalk
attribute [local congr] ite_congr
def yR2 : List AV → Option AV := F1 eStr eBool fun s => if s.length ≤ big then some (zl6 s) else none
theorem yw3 (G : Gam) (s : Bs) (hb : s.length ≤ big) : ∀ (rest : Bs) (i : Nat),s.drop i = rest →
  zi3 G [4] Mc.q60_L0 0 [.blk 0,.seq (.seq (.reg [⟨none,some 2,true,.mv,[.c (.bool true)]⟩]) .ret)] (zb0 Rs.q60 (.bool (rest.all fun b => pch b.toNat)))
  [(0,.str s),(2,.bool false),(3,.int .i64 i),(4,.junk)] []
 | [],i,hd => by
  have hi := zh4 hd
  have hi' : ltB i s.length = false := ze4.2 (by omega)
  refine zb3 (Mc.q60_L0.eq_1) ?_
  simp [trunc,hi',Rs.q60]
 | b :: rest,i,hd => by
  obtain ⟨hi,hx,hxd⟩ := zf0 hd
  have hi' : ltB i s.length = true := zb8.2 (by omega)
  have hw := zn1 (i := i) (by omega)
  have ih := yw3 G s hb rest (i + 1) hxd
  refine zb3 (Mc.q60_L0.eq_1) ?_
  have hB : ((ltB (b.toNat : Int) 97 || ltB 122 b.toNat) && (ltB b.toNat 48 || ltB 57 b.toNat) && !eqB b.toNat 46 && !eqB b.toNat 95 && !eqB b.toNat 45) = !pch b.toNat := by simp [pch]
  simp +contextual [trunc,hi',zx4 hx]
  rw [hB]
  cases hp : pch b.toNat with
  | true =>
   simp [hw]
   refine ze8 ?_
   simpa [trunc] using ih
  | false => simp [Rs.q60]
theorem xK4 (G : Gam) : ∀ args r,yR2 args = some r → wpM G Mc.q60 (zb0 Rs.q60 r) [] (za2 Ks.q60 args) [] := zU6 fun s r h => by
 split at h
 ·rename_i hs
  injection h with h; subst h
  rw [zc8]
  cases s with
  | nil => simp +contextual [Mc.q60,za2,Ks.q60,Rs.q60,eStr,eBool,zl6,ltB]
  | cons c r =>
   have ih := yw3 G (c :: r) hs (c :: r) 0 rfl
   have h0 : ltB ((r.length : Int) + 1) 1 = false := ze4.2 (by omega)
   have hl : ltB (((c :: r).length : Nat) : Int) 32 = ltB (r.length + 1) 32 := rfl
   simp +contextual [Mc.q60,za2,Ks.q60,eStr,eBool,zl6,h0,-List.all_cons]
   cases c1 : ltB 32 ((r.length : Int) + 1) with
   | true => simp [Rs.q60]
   | false =>
    cases c2 : eqB (c.toNat : Int) 46 with
    | true => simp [Rs.q60]
    | false =>
     cases c3 : eqB (c.toNat : Int) 45 with
     | true => simp [Rs.q60]
     | false => simpa using ih
 ·cases h
end Go.Proofs.YtopiadllkglamaaGreatDoor
namespace Go.Proofs.YtopiadllkglamaaGreatDoor
open Go.RowKit Go.IntWalk
abbrev zc7 (b : UInt8) : List AV := [.int .u8 b.toNat]
theorem zz2 : ∀ o : Bs,ze6 (o.map zc7) = some o
 | [] => rfl
 | b :: o => by
  have hb := b.toNat_lt
  simp only [List.map_cons,ze6,zz2 o]
  rw [if_pos ⟨by omega,by omega⟩]
  simp
def hexDigits : Bs := [48,49,50,51,52,53,54,55,56,57,97,98,99,100,101,102]
def zd6 (n : Nat) : UInt8 := hexDigits.getD n 0
def zf6 (b : UInt8) : Int := Lib.indexByte hexDigits b
def zy3 : Bs → Option Bs
 | [] => some []
 | [_] => none
 | a :: b :: r => if zf6 a < 0 ∨ zf6 b < 0 then none else (zy3 r).map (UInt8.ofNat (16 * (zf6 a).toNat + (zf6 b).toNat) :: ·)
def zd9 (s : Bs) : Bs × Int := if s.length = 64 then (match zy3 s with
 | some d => (d,0)
 | none => ([],4)) else ([],4)
def zl9 : List AV → Option AV
 | [.str s] => if s.length < big then some (.tup [.str (zd9 s).1,.int .i64 (zd9 s).2]) else none
 | _ => none
def zo8 : List AV → Option AV
 | [.str s,.int .u8 c] => some (.int .i64 (Lib.indexByte s c.toNat.toUInt8))
 | _ => none
def yk3 (v : UInt8) (k : Nat) : UInt8 := UInt8.ofNat ((v.toNat % 16) * 16 + k)
def dpR : Nat → Bs → Bs → Option Bs
 | _,[],o => some o
 | i,c :: r,o => if zf6 c < 0 then none else dpR (i + 1) r (o.set (i / 2) (yk3 (o.getD (i / 2) 0) (zf6 c).toNat))
theorem yn8 (l : Bs) (c : UInt8) : Lib.indexByte l c < l.length ∧ -1 ≤ Lib.indexByte l c := by
 induction l with
 | nil => simp [Lib.indexByte]
 | cons b l ih =>
  simp only [Lib.indexByte,List.length_cons]
  split
  ·omega
  ·split
   ·omega
   ·omega
theorem zD4 (c : UInt8) : zf6 c < 16 := (yn8 hexDigits c).1
theorem shl16 (v : UInt8) : zc2 .shl (.int .u8 (v.toNat : Int)) (.int .u64 4) = some (.int .u8 (((v.toNat % 16) * 16 : Nat) : Int)) := by
 have hv := v.toNat_lt
 have e2 : Nat.min (4 : Int).toNat IntKind.u8.bits = 4 := rfl
 have e3 : IntKind.u8.wrap ((v.toNat : Int) * 2 ^ 4) = (((v.toNat % 16) * 16 : Nat) : Int) := by
  simp [IntKind.wrap,IntKind.signed,IntKind.bits]
  omega
 simp only [zc2,reduceCtorEq,or_false,if_true,e2,e3]
 simp
theorem or16 (q k : Nat) (hq : q < 16) (hk : k < 16) : zc2 .or (.int .u8 ((q * 16 : Nat) : Int)) (.int .u8 (k : Int)) = some (.int .u8 ((q * 16 + k : Nat) : Int)) := by
 have e : (BitVec.ofInt 8 ((q * 16 : Nat) : Int) ||| BitVec.ofInt 8 (k : Int)).toNat = q * 16 + k := by
  rw [BitVec.toNat_or]
  have e1 : (BitVec.ofInt 8 ((q * 16 : Nat) : Int)).toNat = q * 16 := by rw [BitVec.toNat_ofInt]; omega
  have e2 : (BitVec.ofInt 8 (k : Int)).toNat = k := by rw [BitVec.toNat_ofInt]; omega
  rw [e1,e2]
  have := Nat.two_pow_add_eq_or_of_lt (i := 4) (b := k) (by omega) q
  rw [show 2 ^ 4 = 16 from rfl] at this
  rw [Nat.mul_comm q 16,← this]
 have e3 : zh3 .or .u8 ((q * 16 : Nat) : Int) (k : Int) = some (.int .u8 (IntKind.u8.wrap ((BitVec.ofInt 8 ((q * 16 : Nat) : Int) ||| BitVec.ofInt 8 (k : Int)).toNat : Int))) := rfl
 simp only [zc2,reduceCtorEq,or_self,if_false,if_true]
 rw [e3,e,zI0 (by omega)]
theorem quo2 {i : Nat} (hi : i < 1000) : zc2 .quo (.int .i64 i) (.int .i64 2) = some (.int .i64 ((i / 2 : Nat) : Int)) := by
 have e : ((i : Int).tdiv 2) = ((i / 2 : Nat) : Int) := by rw [Int.tdiv_eq_ediv_of_nonneg (by omega)]; omega
 have e2 : IntKind.i64.wrap ((i / 2 : Nat) : Int) = ((i / 2 : Nat) : Int) := zb6 (by omega) (by omega)
 simp only [zc2,zh3]
 simp only [reduceCtorEq,or_self,if_false,if_true,e,e2]
 simp
theorem wc5 (G : Gam) (hI : G Fn.q40 = some (.pure zo8)) (s : Bs) (hs : s.length = 64) (fin : Bs × Int) {ks : List MK} : ∀ (rest : Bs) (i : Nat) (o : Bs) (v6 : AV),s.drop i = rest → i ≤ s.length → o.length = 32 →
  (dpR i rest o = none → fin = ([],4)) →
  (∀ o' env,dpR i rest o = some o' → exM G .normal ks (zb0 Rs.q74 (.tup [.str fin.1,.int .i64 fin.2])) env [(0,.str s),(2,.str []),(3,.int .i64 0),(4,.own 0 0 32),(5,.int .i64 64),(6,.junk)] [.arr 1 0 (o'.map zc7) true]) →
  zi3 G [6] Mc.q74_L0 1 (.blk 0 :: ks) (zb0 Rs.q74 (.tup [.str fin.1,.int .i64 fin.2])) [(0,.str s),(2,.str []),(3,.int .i64 0),(4,.own 0 0 32),(5,.int .i64 i),(6,v6)] [.arr 1 0 (o.map zc7) true]
 | [],i,o,v6,hd,hi,ho,hn,hk => by
  have hi2 := zh4 hd
  have e : i = 64 := by omega
  subst e
  refine zb3 (Mc.q74_L0.eq_1) ?_
  rw [za5 (n := 1) rfl]
  have e1 : ltB (64 : Int) 64 = false := by simp
  simp [ze1,hs]
  simpa using hk o _ rfl
 | c :: rest,i,o,v6,hd,hi,ho,hn,hk => by
  obtain ⟨hi2,hx,hxd⟩ := zf0 hd
  have hi' : ltB i s.length = true := zb8.2 (by omega)
  have hw := zn1 (i := i) (by unfold big; omega)
  have hlt := zD4 c
  have c1 : ∀ h,opV G false h .istr (some [.str s,.int .i64 i]) = some (.int .u8 c.toNat,h) := fun h => zx4 hx
  have c2 : ∀ h,opV G false h (.call Fn.q40) (some [.str [48,49,50,51,52,53,54,55,56,57,97,98,99,100,101,102],.int .u8 c.toNat]) = some (.int .i64 (zf6 c),h) := fun h => zb5 hI (us := [.str hexDigits,.int .u8 c.toNat]) rfl (by
   simp [zo8,zf6]) (.inl rfl)
  simp only [dpR] at hn hk
  refine zb3 (Mc.q74_L0.eq_1) ?_
  rw [za5 (n := 1) rfl]
  by_cases h0 : zf6 c < 0
  ·have e0 : ltB (zf6 c) 0 = true := zb8.2 h0
   have hf := hn (if_pos h0)
   subst hf
   simp [hi',ze1,c1,c2,e0,zb0,Rs.q74]
  ·have e0 : ltB (zf6 c) 0 = false := ze4.2 (by omega)
   rw [if_neg h0] at hn
   simp only [if_neg h0] at hk
   obtain ⟨k,hk2⟩ : ∃ k : Nat,zf6 c = k := ⟨(zf6 c).toNat,by omega⟩
   have hk16 : k < 16 := by omega
   rw [hk2,Int.toNat_natCast] at hn hk
   rw [hk2] at c2 e0
   have hj : i / 2 < o.length := by omega
   obtain ⟨v,hv⟩ : ∃ v,v = o.getD (i / 2) 0 := ⟨_,rfl⟩
   have hov : o[i / 2]? = some v := by rw [hv,List.getD_eq_getElem?_getD]; simp [hj]
   rw [← hv] at hn hk
   have q2 := quo2 (i := i) (by omega)
   have s1 := shl16 v
   have s2 := or16 (v.toNat % 16) k (by omega) hk16
   have s3 : IntKind.u8.wrap (k : Int) = k := zI0 (by omega)
   obtain ⟨j,hjj⟩ : ∃ j,j = i / 2 := ⟨_,rfl⟩
   rw [← hjj] at q2 hov hn hk hj
   obtain ⟨x,hxx⟩ : ∃ x,x = (v.toNat % 16) * 16 := ⟨_,rfl⟩
   rw [← hxx] at s1 s2
   obtain ⟨y,hyy⟩ : ∃ y,y = x + k := ⟨_,rfl⟩
   rw [← hyy] at s2
   have hy : y < 256 := by omega
   have hrow : (o.map zc7)[j]? = some (zc7 v) := by simp [hov]
   have ia : zc9 1 [Blk.arr 1 0 (o.map zc7) true] (.own 0 0 32) (.int .i64 j) = some (.eptr 0 0 j 0) := zV0 (h := [Blk.arr 1 0 (o.map zc7) true]) rfl (by simp [ho]) hrow rfl
   have ld : za8 1 false [Blk.arr 1 0 (o.map zc7) true] (.eptr 0 0 j 0) = some (.int .u8 v.toNat) := by
    rw [yn5 (h := [Blk.arr 1 0 (o.map zc7) true]) rfl hrow]; rfl
   have st : opV G false [Blk.arr 1 0 (o.map zc7) true] (.st 1) (some [.eptr 0 0 j 0,.int .u8 y]) = some (.junk,[Blk.arr 1 0 ((o.set j (UInt8.ofNat y)).map zc7) true]) := by
    have st0 := zO9 (G := G) (s := false) (h := [Blk.arr 1 0 (o.map zc7) true]) (l := 0) (v := 0) (sz := 1) (n := 1) (off := 0) (x := .int .u8 y) rfl hrow rfl (by omega) rfl (by simp [zc7]) rfl rfl
    rw [st0]
    have : ((UInt8.ofNat y).toNat : Int) = y := by rw [UInt8.toNat_ofNat']; omega
    have e4 : (o.map zc7).set j (zj1 (zc7 v) 0 (AV.int IntKind.u8 (y : Int)).cells) = (o.set j (UInt8.ofNat y)).map zc7 := by
     rw [List.map_set]
     simp only [zc7,this]
     rfl
    rw [e4]
    rfl
   have hsb : yk3 v k = UInt8.ofNat y := by rw [hyy,hxx]; rfl
   rw [hsb] at hn hk
   have ih := wc5 G hI s hs fin rest (i + 1) (o.set j (UInt8.ofNat y)) .junk (by rw [← hxd]) (by omega) (by simpa using ho) hn hk
   simp [hi',ze1,c1,c2,e0,q2,ia,ld,s1,s2,s3,st,hw,-yc3,-za8]
   refine ze8 ?_
   rw [za5 (n := 1) rfl]
   simpa [zc0] using ih
theorem xF5 : ∀ (m : Nat) (rest pre : Bs),rest.length = 2 * m → dpR (2 * pre.length) rest (pre ++ List.replicate m 0) = (zy3 rest).map (pre ++ ·)
 | 0,rest,pre,h => by
  have : rest = [] := List.eq_nil_of_length_eq_zero (by omega)
  subst this
  simp [dpR,zy3]
 | m + 1,rest,pre,h => by
  match rest,h with
  | [],h => simp at h
  | [_],h => simp at h; omega
  | a :: b :: r,h =>
   have hr : r.length = 2 * m := by simp at h; omega
   have d1 : 2 * pre.length / 2 = pre.length := by omega
   have d2 : (2 * pre.length + 1) / 2 = pre.length := by omega
   simp only [dpR,zy3,d1,d2]
   by_cases h1 : zf6 a < 0
   ·simp [h1]
   ·by_cases h2 : zf6 b < 0
    ·simp [h1,h2]
    ·have ha := zD4 a
     have hb := zD4 b
     rw [if_neg h1,if_neg h2,if_neg (by omega)]
     have e0 : (pre ++ List.replicate (m + 1) (0 : UInt8)).getD pre.length 0 = 0 := by
      rw [List.getD_eq_getElem?_getD,List.getElem?_append_right (Nat.le_refl _)]; simp
     have e1 : ∀ x : UInt8,(pre ++ List.replicate (m + 1) (0 : UInt8)).set pre.length x = (pre ++ [x]) ++ List.replicate m 0 := fun x => by
      rw [List.set_append_right _ _ (Nat.le_refl _),Nat.sub_self,List.replicate_succ]; simp
     rw [e0,e1]
     have e2 : ∀ x : UInt8,(pre ++ [x] ++ List.replicate m (0 : UInt8)).getD pre.length 0 = x := fun x => by
      rw [List.getD_eq_getElem?_getD,List.append_assoc,List.getElem?_append_right (Nat.le_refl _)]; simp
     have e3 : ∀ x y : UInt8,(pre ++ [x] ++ List.replicate m (0 : UInt8)).set pre.length y = (pre ++ [y]) ++ List.replicate m 0 := fun x y => by
      rw [List.append_assoc,List.set_append_right _ _ (Nat.le_refl _),Nat.sub_self]; simp
     rw [e2,e3]
     have ih := xF5 m r (pre ++ [yk3 (yk3 0 (zf6 a).toNat) (zf6 b).toNat]) hr
     rw [List.length_append,List.length_singleton,show 2 * (pre.length + 1) = 2 * pre.length + 1 + 1 by omega] at ih
     rw [ih]
     have e4 : yk3 (yk3 0 (zf6 a).toNat) (zf6 b).toNat = UInt8.ofNat (16 * (zf6 a).toNat + (zf6 b).toNat) := by
      have : (yk3 0 (zf6 a).toNat).toNat = (zf6 a).toNat := by
       simp only [yk3]
       rw [UInt8.toNat_ofNat']
       simp
       omega
      unfold yk3 at this ⊢
      rw [this]
      congr 1
      omega
     rw [e4]
     cases zy3 r <;> simp
theorem yr9 : ∀ (m : Nat) (s o : Bs),s.length = 2 * m → zy3 s = some o → o.length = m
 | 0,s,o,h,ho => by
  have : s = [] := List.eq_nil_of_length_eq_zero (by omega)
  subst this; simp [zy3] at ho; subst ho; rfl
 | m + 1,s,o,h,ho => by
  match s,h with
  | [],h => simp at h
  | [_],h => simp at h; omega
  | a :: b :: r,h =>
   simp only [zy3] at ho
   split at ho
   ·cases ho
   ·obtain ⟨o2,h1,rfl⟩ := Option.map_eq_some_iff.1 ho
    have := yr9 m r o2 (by simp at h; omega) h1
    simp [this]
theorem xn6 {G : Gam} (hI : G Fn.q40 = some (.pure zo8)) : ∀ args r,zl9 args = some r → wpM G Mc.q74 (zb0 Rs.q74 r) [] (za2 Ks.q74 args) [] := by
 intro args r hF
 unfold zl9 at hF
 split at hF
 ·rename_i s
  split at hF
  ·rename_i hb
   injection hF with hF; subst hF
   rw [zc8]
   by_cases h64 : s.length = 64
   ·have e1 : eqB (64 : Int) 64 = true := by simp
    have hd := xF5 32 s [] (by omega)
    simp only [List.length_nil,Nat.mul_zero,List.nil_append] at hd
    have hd' : dpR 0 s (List.replicate 32 0) = zy3 s := by rw [hd]; cases zy3 s <;> rfl
    have lp := fun ks hk => wc5 G hI s h64 (zd9 s) (ks := ks) s 0 (List.replicate 32 0) .junk rfl (by omega) (by simp) (fun hn => by
     rw [hd'] at hn; simp [zd9,h64,hn]) hk
    have hrep : (List.replicate 32 (0 : UInt8)).map zc7 = List.replicate 32 [AV.int .u8 0] := by simp [zc7]
    rw [hrep] at lp
    have mk := ym6 (G := G) (s := false) (h := []) (zero := [.int .u8 0]) (bytes := 1) (n := 32) (k := .i64) (k' := .i64) (by unfold zb9; omega) (by unfold zb9; omega)
    have mk' : opV G false [] (.mksl [.int .u8 0] 1) (some [.int .i64 32,.int .i64 32]) = some (.own 0 0 32,[.arr 1 0 (List.replicate 32 [.int .u8 0]) true]) := mk
    simp [Mc.q74,Ks.q74,za2,upd,lkp,ze1,h64,mk',-List.reduceReplicate]
    refine lp _ (fun o' env ho' => ?_)
    rw [hd'] at ho'
    have hol := yr9 32 s o' (by omega) ho'
    have c1 : ∀ st,opV G st [Blk.arr 1 0 (o'.map zc7) true] .b2s (some [.own 0 0 32]) = some (.str o',[Blk.arr 1 0 (o'.map zc7) true]) := fun st => by
     have hr : zb7 [Blk.arr 1 0 (o'.map zc7) true] (.own 0 0 32) = some (o'.map zc7) := zr2 (h := [Blk.arr 1 0 (o'.map zc7) true]) rfl (by simp [hol])
     rw [zb2 rfl]
     simp only [za7,hr,zz2]
     rfl
    have en : zd9 s = (o',0) := by simp [zd9,h64,ho']
    simp [c1,en,zb0,Rs.q74]
   ·have e1 : eqB (s.length : Int) 64 = false := zj4.2 (by omega)
    have en : zd9 s = ([],4) := by simp [zd9,h64]
    simp [Mc.q74,Ks.q74,za2,upd,lkp,ze1,e1,en,zb0,Rs.q74]
  ·cases hF
 ·cases hF
end Go.Proofs.YtopiadllkglamaaGreatDoor
namespace Go.Proofs.YtopiadllkglamaaGreatDoor
open Go.RowKit
def zw1 (T : TypeId) (s : Bs) : AV := match Lib.atoiAll s with
 | .ok v => .tup [.int .i64 v,.nili]
 | .range => .tup [.int .i64 (Lib.atoiSat s),.iface T .junk]
 | _ => .tup [.int .i64 0,.iface T .junk]
theorem zS4 (x : Lib.NumEnd Int) : (∃ v,x = .ok v) ∨ x = .range ∨ x = Lib.atoiAll [] := by
 rcases x with v | _ | _
 ·exact .inl ⟨v,rfl⟩
 ·exact .inr (.inr rfl)
 ·exact .inr (.inl rfl)
def zU1 (T : TypeId) : List AV → Option AV
 | [.str s] => if s.length ≤ 281474976710656 then some (zw1 T s) else none
 | _ => none
theorem xq6 {P : Program} {gv : Gv} {f g4 g5 T e5 : Nat} {t4 t5 : TypeId} {p4 p5 : Value} (h4 : gv.tb g4 = some [.iface t4 p4]) (h5 : gv.tb g5 = some [.iface t5 p5])
  (hok : ∀ (s : ByteArray),s.size ≤ 9223372036854775806 → ∀ (v : Int),Lib.atoiAll s.data.toList = .ok v → ∀ (w : World),Calls P f #[.string s] w fun e w' => e = .returned (.tuple #[.int .i64 v,.nilIface]) ∧ (w' = w ∨ ∃ t,w' = Lib.bytesWorld w e5 t))
  (hsy : ∀ (s : ByteArray),s.size ≤ 281474976710656 → Lib.atoiAll s.data.toList = Lib.atoiAll [] → ∀ (ev : Value) (w : World),w.cell? ⟨g4,0,none⟩ = some ev → (ev = .nilIface ∨ ∃ te pe,ev = .iface te pe) →
   Calls P f #[.string s] w fun e w' => (∃ N,e = .returned (.tuple #[.int .i64 0,.iface T (.pointer (some ⟨N,0,none⟩))])) ∧ Below w.heap.size w w')
  (hra : ∀ (s : ByteArray),s.size ≤ 281474976710656 → Lib.atoiAll s.data.toList = .range → ∀ (ev : Value) (w : World),w.cell? ⟨g5,0,none⟩ = some ev → (ev = .nilIface ∨ ∃ te pe,ev = .iface te pe) →
   Calls P f #[.string s] w fun e w' => (∃ N,e = .returned (.tuple #[.int .i64 (Lib.atoiSat s.data.toList),.iface T (.pointer (some ⟨N,0,none⟩))])) ∧ Below w.heap.size w w') : zd0 P gv f (zU1 T) := by
 refine zp2 fun I w args r vals hI hgl hr hF => ?_
 unfold zU1 at hF
 split at hF
 ·rename_i s
  split at hF
  ·rename_i hb
   injection hF with hF; subst hF
   obtain ⟨x,rfl,hx⟩ := yF7 hr
   have := zd7 hx; subst this
   have hsz : (ByteArray.mk s.toArray).size ≤ 281474976710656 := by rw [zn3]; exact hb
   have hd : (ByteArray.mk s.toArray).data.toList = s := by simp
   rcases zS4 (Lib.atoiAll s) with ⟨v,hv⟩ | hv | hv
   ·have e0 : zw1 T s = .tup [.int .i64 v,.nili] := by unfold zw1; rw [hv]
    rw [e0]
    refine (hok ⟨s.toArray⟩ (by omega) v (by rw [hd]; exact hv) w).mono fun e w' hk => ?_
    obtain ⟨rfl,hk⟩ := hk
    refine ⟨⟨_,rfl,yl9 (.int _ _) .nili⟩,?_⟩
    rcases hk with rfl | ⟨t,rfl⟩
    ·exact Below.refl _ _
    ·exact Lib.bytesWorld_below _ _ _
   ·have e0 : zw1 T s = .tup [.int .i64 (Lib.atoiSat s),.iface T .junk] := by unfold zw1; rw [hv]
    rw [e0]
    obtain ⟨T5,fz,htb⟩ := hgl.tb g5 _ h5
    refine (hra ⟨s.toArray⟩ hsz (by rw [hd]; exact hv) _ w (by rw [ze3 htb]; rfl) (.inr ⟨_,_,rfl⟩)).mono fun e w' hk => ?_
    obtain ⟨⟨N,rfl⟩,hbel⟩ := hk
    rw [hd]
    exact ⟨⟨_,rfl,yl9 (.int _ _) (.iface _ _ _ (.junk _))⟩,hbel⟩
   ·have e0 : zw1 T s = .tup [.int .i64 0,.iface T .junk] := by unfold zw1; rw [hv]; rfl
    rw [e0]
    obtain ⟨T4,fz,htb⟩ := hgl.tb g4 _ h4
    refine (hsy ⟨s.toArray⟩ hsz (by rw [hd]; exact hv) _ w (by rw [ze3 htb]; rfl) (.inr ⟨_,_,rfl⟩)).mono fun e w' hk => ?_
    obtain ⟨⟨N,rfl⟩,hbel⟩ := hk
    exact ⟨⟨_,rfl,yl9 (.int _ _) (.iface _ _ _ (.junk _))⟩,hbel⟩
  ·cases hF
 ·cases hF
def yr1 : List AV → Option AV
 | [.str s,.str sep] => if s.length < 4294967281 then some (.tup [.str (Lib.cut s sep).1,.str (Lib.cut s sep).2.1,.bool (Lib.cut s sep).2.2]) else none
 | _ => none
theorem xA0 {P : Program} {gv : Gv} {f g : Nat} {m : Int} (hg : gv g = some [.int .i64 m])
  (hc : ∀ (s sep : ByteArray) (w : World),s.size < 4294967281 → w.cell? ⟨g,0,none⟩ = some (.int .i64 m) → Calls P f #[.string s,.string sep] w fun e w' =>
   e = .returned (.tuple #[.string ⟨(Lib.cut s.data.toList sep.data.toList).1.toArray⟩,.string ⟨(Lib.cut s.data.toList sep.data.toList).2.1.toArray⟩,.bool (Lib.cut s.data.toList sep.data.toList).2.2]) ∧ ∃ n,w' = w.drewN n) : zd0 P gv f yr1 := by
 refine zp2 fun I w args r vals hI hgl hr hF => ?_
 unfold yr1 at hF
 split at hF
 ·rename_i s sep
  split at hF
  ·rename_i hb
   injection hF with hF; subst hF
   obtain ⟨x,y,rfl,hx,hy⟩ := zF2 hr
   have := zd7 hx; subst this
   have := zd7 hy; subst this
   have hm : w.cell? ⟨g,0,none⟩ = some (.int .i64 m) := by
    have := hgl.gl g _ hg
    cases this with
    | fptr _ _ b o us k1 k2 =>
     have e := k2 0 (.int .i64 m) rfl
     have := zd4 e
     have c0 := hI.cell _ _ _ (k1 0 (.int .i64 m) rfl)
     rw [this] at c0
     simpa using c0
   refine (hc ⟨s.toArray⟩ ⟨sep.toArray⟩ w (by rw [zn3]; exact hb) hm).mono fun e w' hk => ?_
   obtain ⟨rfl,n,rfl⟩ := hk
   refine ⟨⟨_,rfl,xu8 (.str _) (.str _) (.bool _)⟩,?_⟩
   have := yh5 (w := w) (k := n) (os := #[])
   rwa [Go.Sort.grow_empty] at this
  ·cases hF
 ·cases hF
theorem yc7 {P : Program} {gv : Gv} {f : Nat}
  (hc : ∀ (s : ByteArray) (c : Int) (w : World),Calls P f #[.string s,.int .u8 c] w fun e w' => e = .returned (.int .i64 (Lib.indexByte s.data.toList c.toNat.toUInt8)) ∧ w' = w) : zd0 P gv f zo8 := by
 refine zp2 fun I w args r vals hI hgl hr hF => ?_
 unfold zo8 at hF
 split at hF
 ·rename_i s c
  injection hF with hF; subst hF
  obtain ⟨x,y,rfl,hx,hy⟩ := zF2 hr
  have := zd7 hx; subst this
  have := zd4 hy; subst this
  refine (hc ⟨s.toArray⟩ c w).mono fun e w' hk => ?_
  obtain ⟨rfl,rfl⟩ := hk
  exact ⟨⟨_,rfl,.int _ _⟩,Below.refl _ _⟩
 ·cases hF
theorem yc8 {P : Program} {gv : Gv} {f : Nat}
  (hc : ∀ (s t : ByteArray) (w : World),Calls P f #[.string s,.string t] w fun e w' => e = .returned (.bool (Lib.hasPrefix s.data.toList t.data.toList)) ∧ w' = w) : zd0 P gv f zf7 := by
 refine zp2 fun I w args r vals hI hgl hr hF => ?_
 unfold zf7 at hF
 split at hF
 ·rename_i s t
  injection hF with hF; subst hF
  obtain ⟨x,y,rfl,hx,hy⟩ := zF2 hr
  have := zd7 hx; subst this
  have := zd7 hy; subst this
  refine (hc ⟨s.toArray⟩ ⟨t.toArray⟩ w).mono fun e w' hk => ?_
  obtain ⟨rfl,rfl⟩ := hk
  exact ⟨⟨_,rfl,.bool _⟩,Below.refl _ _⟩
 ·cases hF
theorem yI1 {P : Program} {gv : Gv} {f : Nat}
  (hc : ∀ (s : ByteArray) (w : World),s.size ≤ 281474976710656 → Calls P f #[.string s] w fun e w' => e = .returned (.string s) ∧ Below w.heap.size w w') : zd0 P gv f fun args => match args with | [.str s] => if s.length ≤ 281474976710656 then some (.str s) else none | _ => none := by
 refine zp2 fun I w args r vals hI hgl hr hF => ?_
 split at hF
 ·rename_i s
  split at hF
  ·rename_i hs
   injection hF with hF; subst hF
   obtain ⟨x,rfl,hx⟩ := yF7 hr
   have := zd7 hx; subst this
   refine (hc ⟨s.toArray⟩ w (by rw [zn3]; exact hs)).mono fun e w' hk => ?_
   obtain ⟨rfl,hb⟩ := hk
   exact ⟨⟨_,rfl,.str _⟩,hb⟩
  ·cases hF
 ·cases hF
theorem yF8 {gv : Gv} {I : Nat → Nat → Option Value} {w : World} (hI : Holds I w) (hgl : GvHolds gv I w) {g : Nat} {m : Int} (hg : gv g = some [.int .i64 m]) : w.cell? ⟨g,0,none⟩ = some (.int .i64 m) := by
 have := hgl.gl g _ hg
 cases this with
 | fptr _ _ b o us k1 k2 =>
  have e := k2 0 (.int .i64 m) rfl
  have := zd4 e
  have c0 := hI.cell _ _ _ (k1 0 (.int .i64 m) rfl)
  rw [this] at c0
  simpa using c0
def zG4 : List AV → Option AV
 | [.str s,.str t] => if s.length < 4294967281 then some (.bool (Lib.contains s t)) else none
 | _ => none
theorem yo6 {P : Program} {gv : Gv} {f g : Nat} {m : Int} (hg : gv g = some [.int .i64 m])
  (hc : ∀ (s t : ByteArray) (w : World),s.size < 4294967281 → w.cell? ⟨g,0,none⟩ = some (.int .i64 m) → Calls P f #[.string s,.string t] w fun e w' => e = .returned (.bool (Lib.contains s.data.toList t.data.toList)) ∧ w' = w) : zd0 P gv f zG4 := by
 refine zp2 fun I w args r vals hI hgl hr hF => ?_
 unfold zG4 at hF
 split at hF
 ·rename_i s t
  split at hF
  ·rename_i hb
   injection hF with hF; subst hF
   obtain ⟨x,y,rfl,hx,hy⟩ := zF2 hr
   have := zd7 hx; subst this
   have := zd7 hy; subst this
   refine (hc ⟨s.toArray⟩ ⟨t.toArray⟩ w (by rw [zn3]; exact hb) (yF8 hI hgl hg)).mono fun e w' hk => ?_
   obtain ⟨rfl,rfl⟩ := hk
   exact ⟨⟨_,rfl,.bool _⟩,Below.refl _ _⟩
  ·cases hF
 ·cases hF
def zV8 : List AV → Option AV
 | [.str s,.str [c]] => some (.int .i64 (Lib.countByte s c))
 | _ => none
theorem yH8 {P : Program} {gv : Gv} {f : Nat}
  (hc : ∀ (s : ByteArray) (c : UInt8) (w : World),Calls P f #[.string s,.string ⟨#[c]⟩] w fun e w' => e = .returned (.int .i64 (Lib.countByte s.data.toList c)) ∧ w' = w) : zd0 P gv f zV8 := by
 refine zp2 fun I w args r vals hI hgl hr hF => ?_
 unfold zV8 at hF
 split at hF
 ·rename_i s c
  injection hF with hF; subst hF
  obtain ⟨x,y,rfl,hx,hy⟩ := zF2 hr
  have := zd7 hx; subst this
  have := zd7 hy; subst this
  refine (hc ⟨s.toArray⟩ c w).mono fun e w' hk => ?_
  obtain ⟨rfl,rfl⟩ := hk
  exact ⟨⟨_,rfl,.int _ _⟩,Below.refl _ _⟩
 ·cases hF
def zN6 : List AV → Option AV
 | [.str s,.str t] => some (.int .i64 (Lib.compareBytes s t))
 | _ => none
theorem yz7 {P : Program} {gv : Gv} {f : Nat}
  (hc : ∀ (s t : ByteArray) (w : World),Calls P f #[.string s,.string t] w fun e w' => e = .returned (.int .i64 (Lib.compareBytes s.data.toList t.data.toList)) ∧ w' = w) : zd0 P gv f zN6 := by
 refine zp2 fun I w args r vals hI hgl hr hF => ?_
 unfold zN6 at hF
 split at hF
 ·rename_i s t
  injection hF with hF; subst hF
  obtain ⟨x,y,rfl,hx,hy⟩ := zF2 hr
  have := zd7 hx; subst this
  have := zd7 hy; subst this
  refine (hc ⟨s.toArray⟩ ⟨t.toArray⟩ w).mono fun e w' hk => ?_
  obtain ⟨rfl,rfl⟩ := hk
  exact ⟨⟨_,rfl,.int _ _⟩,Below.refl _ _⟩
 ·cases hF
end Go.Proofs.YtopiadllkglamaaGreatDoor
namespace Go.Proofs.YtopiadllkglamaaGreatDoor
open Go.RowKit Go.IntWalk
def zH8 (n : Nat) : Int := if 48 ≤ n ∧ n ≤ 57 then (n : Int) - 48 else if 97 ≤ n ∧ n ≤ 102 then (n : Int) - 87 else -1
set_option maxRecDepth 20000 in
theorem xm9 : ∀ n : Fin 256,zf6 (UInt8.ofNat n.val) = zH8 n.val := by decide
theorem xz8 (c : UInt8) : zf6 c = zH8 c.toNat := by
 have := xm9 ⟨c.toNat,c.toNat_lt⟩
 simpa using this
def zR3 : List AV → Option AV
 | [.int .u8 n] => if 0 ≤ n ∧ n < 256 then some (.int .i64 (zH8 n.toNat)) else none
 | _ => none
theorem xz7 {G : Gam} : ∀ args r,zR3 args = some r → wpM G Mc.q51 (zb0 Rs.q51 r) [] (za2 Ks.q51 args) [] := by
 intro args r hF
 unfold zR3 at hF
 split at hF
 ·rename_i n0
  split at hF
  ·rename_i hn
   injection hF with hF; subst hF
   obtain ⟨n,rfl⟩ : ∃ n : Nat,n0 = n := ⟨n0.toNat,by omega⟩
   have hn2 : n < 256 := by omega
   simp only [Int.toNat_natCast]
   rw [zc8]
   have sub : ∀ k : Nat,k ≤ n → IntKind.u8.wrap ((n : Int) - (k : Int)) = ((n - k : Nat) : Int) := fun k hk => by
    rw [show (n : Int) - k = ((n - k : Nat) : Int) by omega]; exact zI0 (by omega)
   have w48 := sub 48
   have w97 := sub 97
   have alpha : 97 ≤ n → n ≤ 102 → zH8 n = ((n - 97 : Nat) : Int) + 10 := fun a b => by
    unfold zH8; rw [if_neg (by omega),if_pos ⟨a,b⟩]; omega
   have none1 : ¬ (48 ≤ n ∧ n ≤ 57) → ¬ (97 ≤ n ∧ n ≤ 102) → zH8 n = -1 := fun a b => by unfold zH8; rw [if_neg a,if_neg b]
   have second : ¬ (48 ≤ n ∧ n ≤ 57) → goM G (.seq (.seq (.reg [
     ⟨none,some 12,false,.mv,[.t 0]⟩,
     ⟨none,some 13,false,.bin .geq,[.t 12,.c (.int .u8 97)]⟩,
     ⟨none,some 14,false,.mv,[.t 13]⟩,
     ⟨some (14,true),some 15,false,.mv,[.t 0]⟩,
     ⟨some (14,true),some 16,false,.bin .leq,[.t 15,.c (.int .u8 102)]⟩,
     ⟨none,some 17,false,.pick,[.t 14,.t 16,.c (.bool false)]⟩])
    (.ite (.t 17)
     (.seq (.reg [
      ⟨none,some 18,false,.mv,[.t 0]⟩,
      ⟨none,some 19,false,.bin .sub,[.t 18,.c (.int .u8 97)]⟩,
      ⟨none,some 20,false,.conv .i64,[.t 19]⟩,
      ⟨none,some 21,false,.bin .add,[.t 20,.c (.int .i64 10)]⟩,
      ⟨none,some 2,true,.mv,[.t 21]⟩])
     .ret)
     .skip))
    (.seq (.reg [
     ⟨none,some 2,true,.mv,[.c (.int .i64 (-1))]⟩])
    .ret)) [] (zb0 Rs.q51 (.int .i64 (zH8 n))) [] [(0,.int .u8 n),(2,.int .i64 0)] [] := fun hno => by
    by_cases h1 : 97 ≤ n
    ·have e1 : ltB (n : Int) 97 = false := ze4.2 (by omega)
     by_cases h2 : n ≤ 102
     ·have e2 : ltB (102 : Int) n = false := ze4.2 (by omega)
      have w := w97 h1
      have w1 : IntKind.i64.wrap ((n - 97 : Nat) : Int) = ((n - 97 : Nat) : Int) := i64_in _ ⟨by omega,by omega⟩
      have w2 : IntKind.i64.wrap (((n - 97 : Nat) : Int) + 10) = ((n - 97 : Nat) : Int) + 10 := i64_in _ ⟨by omega,by omega⟩
      rw [alpha h1 h2]
      obtain ⟨q,hq⟩ : ∃ q,q = n - 97 := ⟨_,rfl⟩
      rw [← hq] at w w1 w2 ⊢
      have w' : IntKind.u8.wrap ((n : Int) - 97) = q := w
      simp [e1,e2,w',w1,w2,upd,lkp,zb0,Rs.q51]
     ·have e2 : ltB (102 : Int) n = true := zb8.2 (by omega)
      rw [none1 hno (by omega)]
      simp [e1,e2,upd,lkp,zb0,Rs.q51]
    ·have e1 : ltB (n : Int) 97 = true := zb8.2 (by omega)
     rw [none1 hno (by omega)]
     simp [e1,upd,lkp,zb0,Rs.q51]
   by_cases h1 : 48 ≤ n
   ·have e1 : ltB (n : Int) 48 = false := ze4.2 (by omega)
    by_cases h2 : n ≤ 57
    ·have e2 : ltB (57 : Int) n = false := ze4.2 (by omega)
     have w := w48 h1
     have w1 : IntKind.i64.wrap ((n - 48 : Nat) : Int) = ((n - 48 : Nat) : Int) := i64_in _ ⟨by omega,by omega⟩
     have e : zH8 n = ((n - 48 : Nat) : Int) := by unfold zH8; rw [if_pos ⟨h1,h2⟩]; omega
     rw [e]
     obtain ⟨q,hq⟩ : ∃ q,q = n - 48 := ⟨_,rfl⟩
     rw [← hq] at w w1 ⊢
     have w' : IntKind.u8.wrap ((n : Int) - 48) = q := w
     simp [Mc.q51,Ks.q51,za2,upd,lkp,e1,e2,w',w1,zb0,Rs.q51]
    ·have e2 : ltB (57 : Int) n = true := zb8.2 (by omega)
     have sc := second (by omega)
     rw [yO0] at sc
     simp only [Mc.q51,Ks.q51,za2]
     simp [upd,lkp,e1,e2] at sc ⊢
     exact sc
   ·have e1 : ltB (n : Int) 48 = true := zb8.2 (by omega)
    have sc := second (by omega)
    rw [yO0] at sc
    simp only [Mc.q51,Ks.q51,za2]
    simp [upd,lkp,e1] at sc ⊢
    exact sc
  ·cases hF
 ·cases hF
end Go.Proofs.YtopiadllkglamaaGreatDoor
namespace Go.Proofs.YtopiadllkglamaaGreatDoor
open Go.RowKit Go.IntWalk
def OutI (o : Bs) (x : AV) (h : Heap) : Prop := x = .own 0 o.length o.length ∧ h = [.arr 1 o.length (o.map zc7) true]
theorem OutI.rows {o : Bs} {x : AV} {h : Heap} (hi : OutI o x h) : zb7 h x = some (o.map zc7) := by
 obtain ⟨rfl,rfl⟩ := hi
 exact zr2 (h := [.arr 1 o.length (o.map zc7) true]) rfl (by simp)
theorem OutI.trunc {o : Bs} {x : AV} {h : Heap} (hi : OutI o x h) (fr : List (Nat × AV)) : trunc 1 fr h = h := by
 obtain ⟨rfl,rfl⟩ := hi
 exact zf3 rfl
theorem OutI.next {G : Gam} {o : Bs} {x : AV} {h : Heap} (b : UInt8) (hi : OutI o x h) (hb : o.length < big) :
  ∃ x' h',opV G false h (.app false 1 1) (some [x,.tsl [[.int .u8 (b.toNat : Int)]]]) = some (x',h') ∧ OutI (o ++ [b]) x' h' := by
 obtain ⟨rfl,rfl⟩ := hi
 have := ym8 (G := G) (s := false) (h := [.arr 1 o.length (o.map zc7) true]) (e := zc7) (n := 1) (b := 1) (l := 0) (os := o) (x := b) rfl rfl (by omega) hb
 exact ⟨_,_,this,rfl,rfl⟩
theorem yP4 (G : Gam) (hD : G Fn.q51 = some (.pure zR3)) (s : Bs) (hs : s.length = 64) (fin : Bs × Int) {ks : List MK} : ∀ (m : Nat) (rest : Bs) (i : Nat) (o : Bs) (x : AV) (h : Heap) (v6 v7 : AV),rest.length = 2 * m → s.drop i = rest → i + 2 * m = 64 → 2 * o.length = i → OutI o x h →
  (zy3 rest = none → fin = ([],4)) →
  (∀ o' env x h,zy3 rest = some o' → zb7 h x = some ((o ++ o').map zc7) → exM G .normal ks (zb0 Rs.q47 (.tup [.str fin.1,.int .i64 fin.2])) env [(0,.str s),(2,.str []),(3,.int .i64 0),(4,x),(5,.int .i64 64),(6,.junk),(7,.junk)] h) →
  zi3 G [6,7] Mc.q47_L0 1 (.blk 0 :: ks) (zb0 Rs.q47 (.tup [.str fin.1,.int .i64 fin.2])) [(0,.str s),(2,.str []),(3,.int .i64 0),(4,x),(5,.int .i64 i),(6,v6),(7,v7)] h
 | 0,rest,i,o,x,h,v6,v7,hm,hd,hi,ho,hI,hn,hk => by
  have hr0 : rest = [] := List.eq_nil_of_length_eq_zero (by omega)
  subst hr0
  have e : i = 64 := by omega
  subst e
  refine zb3 (Mc.q47_L0.eq_1) ?_
  rw [hI.trunc _]
  have hr := hI.rows
  simp [ze1,hs]
  simpa using hk [] _ x h rfl (by simpa using hr)
 | m + 1,rest,i,o,x,h,v6,v7,hm,hd,hi,ho,hI,hn,hk => by
  match rest,hm with
  | [],hm => simp at hm
  | [_],hm => simp at hm; omega
  | a :: b :: r,hm =>
   have hr : r.length = 2 * m := by simp at hm; omega
   obtain ⟨_,hxa,hxd⟩ := zf0 hd
   obtain ⟨_,hxb,hxd2⟩ := zf0 hxd
   have hi' : ltB i 64 = true := zb8.2 (by omega)
   obtain ⟨j,hj⟩ : ∃ j,j = i + 1 := ⟨_,rfl⟩
   obtain ⟨t,ht⟩ : ∃ t,t = i + 2 := ⟨_,rfl⟩
   have w1 : IntKind.i64.wrap ((i : Int) + 1) = (j : Int) := by rw [hj]; exact zn1 (i := i) (by unfold big; omega)
   have w2 : IntKind.i64.wrap ((i : Int) + 2) = (t : Int) := by rw [show (i : Int) + 2 = (t : Int) by omega]; exact i64_in _ ⟨by omega,by omega⟩
   rw [← hj] at hxb
   have ha := zD4 a
   have hb := zD4 b
   have hla := (yn8 hexDigits a).2
   have hlb := (yn8 hexDigits b).2
   have dg : ∀ (c : UInt8) h,opV G true h (.call Fn.q51) (some [.int .u8 (c.toNat : Int)]) = some (.int .i64 (zf6 c),h) := fun c h => zb5 hD (us := [.int .u8 c.toNat]) rfl (by
    have := c.toNat_lt
    simp only [zR3]; rw [if_pos ⟨by omega,by omega⟩,xz8]; simp) (.inl rfl)
   have c1 : ∀ h,opV G true h .istr (some [.str s,.int .i64 i]) = some (.int .u8 a.toNat,h) := fun h => zx4 hxa
   have c2 := dg a
   have c3 : ∀ h,opV G true h .istr (some [.str s,.int .i64 (j : Int)]) = some (.int .u8 b.toNat,h) := fun h => zx4 hxb
   have c4 := dg b
   simp only [zy3] at hn hk
   refine zb3 (Mc.q47_L0.eq_1) ?_
   rw [hI.trunc _]
   by_cases h0 : zf6 a < 0
   ·have e0 : ltB (zf6 a) 0 = true := zb8.2 h0
    have hf := hn (if_pos (.inl h0))
    subst hf
    simp [hi',ze1,hs,c1,c2,c3,c4,w1,e0,zb0,Rs.q47]
   ·have e0 : ltB (zf6 a) 0 = false := ze4.2 (by omega)
    by_cases h1 : zf6 b < 0
    ·have e1 : ltB (zf6 b) 0 = true := zb8.2 h1
     have hf := hn (if_pos (.inr h1))
     subst hf
     simp [hi',ze1,hs,c1,c2,c3,c4,w1,e0,e1,zb0,Rs.q47]
    ·have e1 : ltB (zf6 b) 0 = false := ze4.2 (by omega)
     rw [if_neg (by omega)] at hn
     simp only [if_neg (show ¬ (zf6 a < 0 ∨ zf6 b < 0) by omega)] at hk
     obtain ⟨p,hp⟩ : ∃ p : Nat,zf6 a = p := ⟨(zf6 a).toNat,by omega⟩
     obtain ⟨q,hq⟩ : ∃ q : Nat,zf6 b = q := ⟨(zf6 b).toNat,by omega⟩
     rw [hp,hq] at hn
     simp only [hp,hq,Int.toNat_natCast] at hk hn
     rw [hp] at c2 e0
     rw [hq] at c4 e1
     obtain ⟨y,hy⟩ : ∃ y,y = 16 * p + q := ⟨_,rfl⟩
     have hy2 : y < 256 := by omega
     have wm : IntKind.i64.wrap (16 * (p : Int)) = 16 * (p : Int) := i64_in _ ⟨by omega,by omega⟩
     have wa : IntKind.i64.wrap (16 * (p : Int) + q) = y := by rw [show 16 * (p : Int) + q = (y : Int) by omega]; exact i64_in _ ⟨by omega,by omega⟩
     have wc : IntKind.u8.wrap (y : Int) = y := zI0 hy2
     rw [← hy] at hn hk
     obtain ⟨x',h',c5,hI'⟩ := hI.next (G := G) (UInt8.ofNat y) (by unfold big; omega)
     have hyb : ((UInt8.ofNat y).toNat : Int) = y := by rw [UInt8.toNat_ofNat']; omega
     rw [hyb] at c5
     have ih := yP4 G hD s hs fin m r t (o ++ [UInt8.ofNat y]) x' h' (.int .i64 p) (.int .i64 q) hr (by rw [ht,← hxd2]) (by omega) (by simp; omega) hI' (fun hh => hn (by rw [hh]; rfl)) (fun o' env x h ho' hro => hk (UInt8.ofNat y :: o') env x h (by rw [ho']; rfl) (by rw [hro]; simp))
     simp [hi',ze1,hs,c1,c2,c3,c4,w1,e0,e1,wm,wa,wc,c5,w2,zm0,owns,zj6,view,zc3,zt1,oneC,AV.cells]
     exact ih
theorem xA7 {G : Gam} (hD : G Fn.q51 = some (.pure zR3)) : ∀ args r,zl9 args = some r → wpM G Mc.q47 (zb0 Rs.q47 r) [] (za2 Ks.q47 args) [] := by
 intro args r hF
 unfold zl9 at hF
 split at hF
 ·rename_i s
  split at hF
  ·rename_i hb
   injection hF with hF; subst hF
   rw [zc8]
   by_cases h64 : s.length = 64
   ·have lp := fun ks hk => yP4 G hD s h64 (zd9 s) (ks := ks) 32 s 0 [] (.own 0 0 0) [.arr 1 0 [] true] .junk .junk (by omega) rfl (by omega) rfl ⟨rfl,rfl⟩ (fun hn => by simp [zd9,h64,hn]) hk
    simp [Mc.q47,Ks.q47,za2,upd,lkp,ze1,h64]
    refine lp _ (fun o' env x h ho' hr => ?_)
    rw [List.nil_append] at hr
    have c1 : ∀ st,opV G st h .b2s (some [x]) = some (.str o',h) := fun st => by
     rw [zb2 rfl]
     simp [za7,hr,zz2]
    have en : zd9 s = (o',0) := by simp [zd9,h64,ho']
    simp [c1,en,zb0,Rs.q47]
   ·have e1 : eqB (s.length : Int) 64 = false := zj4.2 (by omega)
    have en : zd9 s = ([],4) := by simp [zd9,h64]
    simp [Mc.q47,Ks.q47,za2,upd,lkp,ze1,e1,en,zb0,Rs.q47]
  ·cases hF
 ·cases hF
end Go.Proofs.YtopiadllkglamaaGreatDoor
namespace Go.Proofs.YtopiadllkglamaaGreatDoor
open Go.RowKit Go.IntWalk
def sRow (w : Bs) : List AV := [.str w]
def SpH (os : List Bs) : Heap := [.arr 1 0 [] true,.arr 1 os.length (os.map sRow) true]
def zE8 : List AV → Option AV
 | [.str s,.int .u8 e] => if s.length ≤ 1000000 ∧ 0 ≤ e ∧ e < 256 then some (.sl ((za9 (UInt8.ofNat e.toNat) s).map sRow)) else none
 | _ => none
theorem xD4 {G : Gam} (os : List Bs) (w : Bs) (hb : os.length < big) : opV G false (SpH os) (.app false 1 16) (some [.own 1 os.length os.length,.tsl [[.str w]]]) = some (.own 1 (os ++ [w]).length (os ++ [w]).length,SpH (os ++ [w])) :=
 ym8 (e := sRow) (l := 1) (os := os) (x := w) rfl rfl (by omega) hb
theorem yc1 {s : Bs} {f i : Nat} {b : UInt8} (hf : f ≤ i) (hb : s[i]? = some b) : (s.take (i + 1)).drop f = (s.take i).drop f ++ [b] := by
 have hlt : i < s.length := (List.getElem?_eq_some_iff.1 hb).1
 rw [List.take_add_one,hb,List.drop_append_of_le_length (by rw [List.length_take]; omega)]; rfl
theorem zO3 (G : Gam) (s : Bs) (c : UInt8) (hs : s.length ≤ 1000000) : ∀ (rest : Bs) (i f : Nat) (os : List Bs),s.drop i = rest → i ≤ s.length → f ≤ i → os.length ≤ i → za9 c s = os ++ preP ((s.take i).drop f) (za9 c rest) →
  zi3 G [] Mc.q50_L0 2 [.blk 0,.seq (.seq (.reg [⟨none,some 28,false,.mv,[.t 5]⟩,⟨none,some 29,false,.mv,[.t 0]⟩,⟨none,some 30,false,.mv,[.t 6]⟩,⟨none,some 31,false,.slc none true false false,[.t 29,.t 30]⟩,
   ⟨none,some 32,false,.bsl false 1,[.t 31]⟩,⟨none,some 33,false,.app false 1 16,[.t 28,.t 32]⟩,⟨none,some 4,true,.mv,[.t 33]⟩]) .ret)] (zb0 Rs.q50 (.sl ((za9 c s).map sRow)))
   [(0,.str s),(1,.int .u8 c.toNat),(4,.own 0 0 0),(5,.own 1 os.length os.length),(6,.int .i64 f),(7,.int .i64 i)] (SpH os)
 | [],i,f,os,hd,hi,hf,ho,hr => by
  have hi2 := zh4 hd
  have e : i = s.length := by omega
  subst e
  have hl : ltB (s.length : Int) (s.length : Int) = false := ze4.2 (by omega)
  have sl : ∀ st h,opV G st h (.slc none true false false) (some [.str s,.int .i64 f]) = some (.str (s.drop f),h) := fun st h => xW1 (k := f) rfl hf
  have ap := xD4 (G := G) os (s.drop f) (by unfold big; omega)
  rw [List.take_length] at hr
  have hr2 : za9 c s = os ++ [s.drop f] := by simpa [za9,preP] using hr
  rw [hr2]
  refine zb3 (Mc.q50_L0.eq_1) ?_
  rw [zf3 (n := 2) rfl]
  have vw : zb7 (SpH (os ++ [s.drop f])) (.own 1 (os ++ [s.drop f]).length (os ++ [s.drop f]).length) = some ((os ++ [s.drop f]).map sRow) :=
   zr2 (h := SpH (os ++ [s.drop f])) (l := 1) (sz := 1) (rows := (os ++ [s.drop f]).map sRow) (wr := true) rfl (by simp)
  simp [ze1,sl,zm0,owns,zj6,zc3,zt1,oneC,AV.cells,ap,vw,zb0,Rs.q50,-List.length_append,-List.map_append]
 | b :: rest,i,f,os,hd,hi,hf,ho,hr => by
  obtain ⟨hlt,hx,hxd⟩ := zf0 hd
  have hl : ltB (i : Int) (s.length : Int) = true := zb8.2 (by omega)
  have hw : IntKind.i64.wrap ((i : Int) + 1) = ((i + 1 : Nat) : Int) := zn1 (by unfold big; omega)
  have is : ∀ st h,opV G st h .istr (some [.str s,.int .i64 i]) = some (.int .u8 b.toNat,h) := fun st h => zx4 hx
  refine zb3 (Mc.q50_L0.eq_1) ?_
  rw [zf3 (n := 2) rfl]
  by_cases hbc : b = c
  ·subst hbc
   rw [yZ8] at hr
   have sl : ∀ st h,opV G st h (.slc none true true false) (some [.str s,.int .i64 f,.int .i64 i]) = some (.str ((s.take i).drop f),h) := fun st h => xt7 rfl rfl hf hi
   have ap := xD4 (G := G) os ((s.take i).drop f) (by unfold big; omega)
   have hr2 : za9 b s = (os ++ [(s.take i).drop f]) ++ preP ((s.take (i + 1)).drop (i + 1)) (za9 b rest) := by
    have e : (s.take (i + 1)).drop (i + 1) = [] := by rw [List.drop_eq_nil_iff,List.length_take]; omega
    rw [e,yL8 _ (zq2 b rest),hr]; simp
   have ih := zO3 G s b hs rest (i + 1) (i + 1) (os ++ [(s.take i).drop f]) hxd (by omega) (by omega) (by simp; omega) hr2
   simp [ze1,hl,is,sl,zm0,owns,zj6,view,zc3,zt1,oneC,AV.cells,ap,hw,-List.length_append]
   refine ze8 ?_
   simpa [zf3 (n := 2) (show (SpH _).length = 2 from rfl)] using ih
  ·have q : eqB (b.toNat : Int) (c.toNat : Int) = false := zj4.2 fun e => hbc (UInt8.toNat_inj.1 (by omega))
   rw [yS8 hbc] at hr
   have hr2 : za9 c s = os ++ preP ((s.take (i + 1)).drop f) (za9 c rest) := by rw [yc1 hf hx]; exact hr
   have ih := zO3 G s c hs rest (i + 1) f os hxd (by omega) (by omega) (by omega) hr2
   simp [ze1,hl,is,q,hw]
   refine ze8 ?_
   simpa [zf3 (n := 2) (show (SpH _).length = 2 from rfl)] using ih
theorem yX9 {G : Gam} : ∀ args r,zE8 args = some r → wpM G Mc.q50 (zb0 Rs.q50 r) [] (za2 Ks.q50 args) [] := by
 intro args r hF
 unfold zE8 at hF
 split at hF
 ·rename_i s e
  split at hF
  ·rename_i hc
   injection hF with hF; subst hF
   obtain ⟨h1,h2,h3⟩ := hc
   obtain ⟨E,hE⟩ : ∃ E : UInt8,e = (E.toNat : Int) := ⟨UInt8.ofNat e.toNat,by rw [UInt8.toNat_ofNat']; omega⟩
   subst hE
   have eE : UInt8.ofNat ((E.toNat : Int)).toNat = E := by simp
   rw [eE,zc8]
   have ih := zO3 G s E h1 s 0 0 [] rfl (by omega) (by omega) (by simp) (by simp [yL8 _ (zq2 E s)])
   simp [Mc.q50,za2,Ks.q50]
   simpa [SpH] using ih
  ·cases hF
 ·cases hF
end Go.Proofs.YtopiadllkglamaaGreatDoor
namespace Go.Proofs.YtopiadllkglamaaGreatDoor
open Go.RowKit Go.IntWalk
theorem xu1 {ws : List Bs} {i : Nat} {w : Bs} (h : ws[i]? = some w) : (ws.map sRow)[i]? = some [.str w] := by simp [h,sRow]
theorem xc5 (G : Gam) (hN : G Fn.q60 = some (.pure yR2)) (s : Bs) (hs : s.length ≤ 128) (ws : List Bs) (hw8 : ws.length ≤ 8) (hws : ∀ w ∈ ws,w.length ≤ big) (r : Int) : ∀ (rest : List Bs) (i : Nat) (x : AV),ws.drop i = rest → r = (if rest.all zl6 then 0 else 2) →
  zi3 G [5] Mc.q58_L0 0 [.blk 0,.seq (.seq (.reg [⟨none,some 2,true,.mv,[.c (.int .i64 0)]⟩]) .ret)] (zb0 Rs.q58 (.int .i64 r))
   [(0,.str s),(2,.int .i64 0),(3,.sl (ws.map sRow)),(5,x),(14,.sl (ws.map sRow)),(15,.int .i64 ws.length),(16,.int .i64 i)] []
 | [],i,x,hd,hr => by
  have hi2 := zh4 hd
  have hl : ltB (i : Int) (ws.length : Int) = false := ze4.2 (by omega)
  simp only [List.all_nil,if_true] at hr
  subst hr
  refine zb3 (Mc.q58_L0.eq_1) ?_
  simp [hl,zf3 (n := 0) (h := []) rfl,zb0,Rs.q58]
 | w :: rest,i,x,hd,hr => by
  obtain ⟨hlt,hx,hxd⟩ := zf0 hd
  have hl : ltB (i : Int) (ws.length : Int) = true := zb8.2 (by omega)
  have hw := zn1 (i := i) (by unfold big; omega)
  have hrow := xu1 hx
  have ir : ∀ st h,opV G st h (.iadr 1) (some [.sl (ws.map sRow),.int .i64 i]) = some (.fptr [.str w] 0,h) := fun st h => by
   rw [zb2 rfl]; simp [za7,zc9,hrow]
  have cn : ∀ st h,opV G st h (.call Fn.q60) (some [.str w]) = some (.bool (zl6 w),h) := fun st h => zb5 hN (us := [.str w]) rfl (zw5 (A := eStr) (R := eBool) (x := w) (by simp [hws w (List.mem_of_getElem? hx)])) (.inl rfl)
  refine zb3 (Mc.q58_L0.eq_1) ?_
  cases hp : zl6 w with
  | false =>
   rw [hp] at cn
   simp only [List.all_cons,hp,Bool.false_and,Bool.false_eq_true,if_false] at hr
   subst hr
   simp [hl,zf3 (n := 0) (h := []) rfl,ir,cn,zb0,Rs.q58]
  | true =>
   rw [hp] at cn
   simp only [List.all_cons,hp,Bool.true_and] at hr
   have ih := xc5 G hN s hs ws hw8 hws r rest (i + 1) (.str w) hxd hr
   simp [hl,zf3 (n := 0) (h := []) rfl,ir,cn,hw]
   simpa using ih
theorem xr5 {G : Gam} (hN : G Fn.q60 = some (.pure yR2)) (hS : G Fn.q50 = some (.pure zE8)) : ∀ args r,zz4 args = some r → wpM G Mc.q58 (zb0 Rs.q58 r) [] (za2 Ks.q58 args) [] := zU6 fun s r h => by
 split at h
 ·rename_i hs
  injection h with h; subst h
  rw [zc8]
  by_cases h1 : 128 < s.length
  ·have q : ltB 128 (s.length : Int) = true := zb8.2 (by omega)
   have e : zf1 s = false := by simp [zf1,q]
   rw [e]
   simp [Mc.q58,za2,Ks.q58,ze1,q,zb0,Rs.q58]
  ·have q : ltB 128 (s.length : Int) = false := ze4.2 (by omega)
   have cs : ∀ st h,opV G st h (.call Fn.q50) (some [.str s,.int .u8 47]) = some (.sl ((za9 47 s).map sRow),h) := fun st h => zb5 hS (us := [.str s,.int .u8 47]) rfl (by
    simp only [zE8]; rw [if_pos ⟨by omega,by omega,by omega⟩]; rfl) (.inr rfl)
   by_cases h2 : 8 < (za9 47 s).length
   ·have q2 : ltB 8 ((za9 47 s).length : Int) = true := zb8.2 (by omega)
    have e : zf1 s = false := by simp [zf1,q,q2]
    rw [e]
    simp [Mc.q58,za2,Ks.q58,ze1,q,q2,cs,zb0,Rs.q58]
   ·have q2 : ltB 8 ((za9 47 s).length : Int) = false := ze4.2 (by omega)
    have e : zf1 s = (za9 47 s).all zl6 := by simp [zf1,q,q2]
    rw [e]
    have hwl : ∀ (c : UInt8) (s w : Bs),w ∈ za9 c s → w.length ≤ s.length := by
     intro c s
     induction s with
     | nil => intro w hw; simp [za9] at hw; subst hw; simp
     | cons b t ih =>
      intro w hw
      simp only [za9] at hw
      split at hw
      ·rcases List.mem_cons.1 hw with rfl | hw
       ·simp
       ·have := ih w hw; simp; omega
      ·split at hw
       ·rename_i p ps hps
        rcases List.mem_cons.1 hw with rfl | hw
        ·have := ih p (by rw [hps]; exact List.mem_cons_self); simp; omega
        ·have := ih w (by rw [hps]; exact List.mem_cons_of_mem _ hw); simp; omega
       ·simp at hw; subst hw; simp
    have ih := xc5 G hN s (by omega) (za9 47 s) (by omega) (fun w hw => by have := hwl 47 s w hw; unfold big; omega) _ (za9 47 s) 0 .junk rfl rfl
    simp [Mc.q58,za2,Ks.q58,ze1,q,q2,cs]
    simpa using ih
 ·cases h
end Go.Proofs.YtopiadllkglamaaGreatDoor
