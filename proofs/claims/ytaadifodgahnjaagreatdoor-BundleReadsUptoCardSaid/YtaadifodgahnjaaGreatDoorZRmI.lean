/- The reference: parts of names,paths. digest.Parse walked. The library's functions on strings,turned from the shelf: Atoi,Cut,IndexByte,HasPrefix,Clone,Contains,Count,Compare. The reference: t -/
import Derived.Test.YtaadifodgahnjaaGreatDoorZRmD
import Derived.Lib.AtoiAll
import Derived.Shelf.Strings.Cut
import Derived.Test.YtaadifodgahnjaaGreatDoorZRmV
import Derived.Test.YtaadifodgahnjaaGreatDoorZAm10
import Derived.Lib.AtoiErrMem
import Derived.Lib.LaidTab
import Derived.Lib.Bytealg
import Derived.Lib.IndexMore
import Derived.Test.YtaadifodgahnjaaGreatDoorZRmB
namespace Go.Proofs.YtaadifodgahnjaaGreatDoor
open Go.RowKit Go.IntWalk
attribute [local congr] ite_congr
def F_name : List AV → Option AV := F1 eStr eBool fun s => if s.length ≤ big then some (partOK s) else none
theorem name_loop (G : Gam) (s : Bs) (hb : s.length ≤ big) : ∀ (rest : Bs) (i : Nat),s.drop i = rest →
  headM G [4] Mc.q59_L0 0 [.blk 0,.seq (.seq (.reg [⟨none,some 2,true,.mv,[.c (.bool true)]⟩]) .ret)] (pureQ Rs.q59 (.bool (rest.all fun b => pch b.toNat)))
  [(0,.str s),(2,.bool false),(3,.int .i64 i),(4,.junk)] []
 | [],i,hd => by
  have hi := drop_nil hd
  have hi' : ltB i s.length = false := ltB_not.2 (by omega)
  refine head_go (Mc.q59_L0.eq_1) ?_
  simp [trunc,hi',Rs.q59]
 | b :: rest,i,hd => by
  obtain ⟨hi,hx,hxd⟩ := drop_cons hd
  have hi' : ltB i s.length = true := ltB_iff.2 (by omega)
  have hw := wrap1 (i := i) (by omega)
  have ih := name_loop G s hb rest (i + 1) hxd
  refine head_go (Mc.q59_L0.eq_1) ?_
  have hB : ((ltB (b.toNat : Int) 97 || ltB 122 b.toNat) && (ltB b.toNat 48 || ltB 57 b.toNat) && !eqB b.toNat 46 && !eqB b.toNat 95 && !eqB b.toNat 45) = !pch b.toNat := by simp [pch]
  simp +contextual [trunc,hi',op_istr hx]
  rw [hB]
  cases hp : pch b.toNat with
  | true =>
   simp [hw]
   refine head_of ?_
   simpa [trunc] using ih
  | false => simp [Rs.q59]
theorem name_ok (G : Gam) : ∀ args r,F_name args = some r → wpM G Mc.q59 (pureQ Rs.q59 r) [] (frInit Ks.q59 args) [] := F1_ok fun s r h => by
 split at h
 ·rename_i hs
  injection h with h; subst h
  rw [wpM_go]
  cases s with
  | nil => simp +contextual [Mc.q59,frInit,Ks.q59,Rs.q59,eStr,eBool,partOK,ltB]
  | cons c r =>
   have ih := name_loop G (c :: r) hs (c :: r) 0 rfl
   have h0 : ltB ((r.length : Int) + 1) 1 = false := ltB_not.2 (by omega)
   have hl : ltB (((c :: r).length : Nat) : Int) 32 = ltB (r.length + 1) 32 := rfl
   simp +contextual [Mc.q59,frInit,Ks.q59,eStr,eBool,partOK,h0,-List.all_cons]
   cases c1 : ltB 32 ((r.length : Int) + 1) with
   | true => simp [Rs.q59]
   | false =>
    cases c2 : eqB (c.toNat : Int) 46 with
    | true => simp [Rs.q59]
    | false =>
     cases c3 : eqB (c.toNat : Int) 45 with
     | true => simp [Rs.q59]
     | false => simpa using ih
 ·cases h
end Go.Proofs.YtaadifodgahnjaaGreatDoor
namespace Go.Proofs.YtaadifodgahnjaaGreatDoor
open Go.RowKit Go.IntWalk
abbrev byteRow (b : UInt8) : List AV := [.int .u8 b.toNat]
theorem bytes_back : ∀ o : Bs,bytesOfRows (o.map byteRow) = some o
 | [] => rfl
 | b :: o => by
  have hb := b.toNat_lt
  simp only [List.map_cons,bytesOfRows,bytes_back o]
  rw [if_pos ⟨by omega,by omega⟩]
  simp
def hexDigits : Bs := [48,49,50,51,52,53,54,55,56,57,97,98,99,100,101,102]
def hexVal (b : UInt8) : Int := Lib.indexByte hexDigits b
def unhex : Bs → Option Bs
 | [] => some []
 | [_] => none
 | a :: b :: r => if hexVal a < 0 ∨ hexVal b < 0 then none else (unhex r).map (UInt8.ofNat (16 * (hexVal a).toNat + (hexVal b).toNat) :: ·)
def dparseE (s : Bs) : Bs × Int := if s.length = 64 then (match unhex s with
 | some d => (d,0)
 | none => ([],4)) else ([],4)
def F_dParse : List AV → Option AV
 | [.str s] => if s.length < big then some (.tup [.str (dparseE s).1,.int .i64 (dparseE s).2]) else none
 | _ => none
def F_IndexByte : List AV → Option AV
 | [.str s,.int .u8 c] => some (.int .i64 (Lib.indexByte s c.toNat.toUInt8))
 | _ => none
def stepB (v : UInt8) (k : Nat) : UInt8 := UInt8.ofNat ((v.toNat % 16) * 16 + k)
def dpR : Nat → Bs → Bs → Option Bs
 | _,[],o => some o
 | i,c :: r,o => if hexVal c < 0 then none else dpR (i + 1) r (o.set (i / 2) (stepB (o.getD (i / 2) 0) (hexVal c).toNat))
theorem index_lt (l : Bs) (c : UInt8) : Lib.indexByte l c < l.length ∧ -1 ≤ Lib.indexByte l c := by
 induction l with
 | nil => simp [Lib.indexByte]
 | cons b l ih =>
  simp only [Lib.indexByte,List.length_cons]
  split
  ·omega
  ·split
   ·omega
   ·omega
theorem hexVal_lt (c : UInt8) : hexVal c < 16 := (index_lt hexDigits c).1
theorem shl16 (v : UInt8) : binAV .shl (.int .u8 (v.toNat : Int)) (.int .u64 4) = some (.int .u8 (((v.toNat % 16) * 16 : Nat) : Int)) := by
 have hv := v.toNat_lt
 have e2 : Nat.min (4 : Int).toNat IntKind.u8.bits = 4 := rfl
 have e3 : IntKind.u8.wrap ((v.toNat : Int) * 2 ^ 4) = (((v.toNat % 16) * 16 : Nat) : Int) := by
  simp [IntKind.wrap,IntKind.signed,IntKind.bits]
  omega
 simp only [binAV,reduceCtorEq,or_false,if_true,e2,e3]
 simp
theorem or16 (q k : Nat) (hq : q < 16) (hk : k < 16) : binAV .or (.int .u8 ((q * 16 : Nat) : Int)) (.int .u8 (k : Int)) = some (.int .u8 ((q * 16 + k : Nat) : Int)) := by
 have e : (BitVec.ofInt 8 ((q * 16 : Nat) : Int) ||| BitVec.ofInt 8 (k : Int)).toNat = q * 16 + k := by
  rw [BitVec.toNat_or]
  have e1 : (BitVec.ofInt 8 ((q * 16 : Nat) : Int)).toNat = q * 16 := by rw [BitVec.toNat_ofInt]; omega
  have e2 : (BitVec.ofInt 8 (k : Int)).toNat = k := by rw [BitVec.toNat_ofInt]; omega
  rw [e1,e2]
  have := Nat.two_pow_add_eq_or_of_lt (i := 4) (b := k) (by omega) q
  rw [show 2 ^ 4 = 16 from rfl] at this
  rw [Nat.mul_comm q 16,← this]
 have e3 : intBin .or .u8 ((q * 16 : Nat) : Int) (k : Int) = some (.int .u8 (IntKind.u8.wrap ((BitVec.ofInt 8 ((q * 16 : Nat) : Int) ||| BitVec.ofInt 8 (k : Int)).toNat : Int))) := rfl
 simp only [binAV,reduceCtorEq,or_self,if_false,if_true]
 rw [e3,e,u8_wrap (by omega)]
theorem quo2 {i : Nat} (hi : i < 1000) : binAV .quo (.int .i64 i) (.int .i64 2) = some (.int .i64 ((i / 2 : Nat) : Int)) := by
 have e : ((i : Int).tdiv 2) = ((i / 2 : Nat) : Int) := by rw [Int.tdiv_eq_ediv_of_nonneg (by omega)]; omega
 have e2 : IntKind.i64.wrap ((i / 2 : Nat) : Int) = ((i / 2 : Nat) : Int) := i64_small (by omega) (by omega)
 simp only [binAV,intBin]
 simp only [reduceCtorEq,or_self,if_false,if_true,e,e2]
 simp
theorem dp_L0 (G : Gam) (hI : G Fn.q40 = some (.pure F_IndexByte)) (s : Bs) (hs : s.length = 64) (fin : Bs × Int) {ks : List MK} : ∀ (rest : Bs) (i : Nat) (o : Bs) (v6 : AV),s.drop i = rest → i ≤ s.length → o.length = 32 →
  (dpR i rest o = none → fin = ([],4)) →
  (∀ o' env,dpR i rest o = some o' → exM G .normal ks (pureQ Rs.q69 (.tup [.str fin.1,.int .i64 fin.2])) env [(0,.str s),(2,.str []),(3,.int .i64 0),(4,.own 0 0 32),(5,.int .i64 64),(6,.junk)] [.arr 1 0 (o'.map byteRow) true]) →
  headM G [6] Mc.q69_L0 1 (.blk 0 :: ks) (pureQ Rs.q69 (.tup [.str fin.1,.int .i64 fin.2])) [(0,.str s),(2,.str []),(3,.int .i64 0),(4,.own 0 0 32),(5,.int .i64 i),(6,v6)] [.arr 1 0 (o.map byteRow) true]
 | [],i,o,v6,hd,hi,ho,hn,hk => by
  have hi2 := drop_nil hd
  have e : i = 64 := by omega
  subst e
  refine head_go (Mc.q69_L0.eq_1) ?_
  rw [trunc_len (n := 1) rfl]
  have e1 : ltB (64 : Int) 64 = false := by simp
  simp [lenAV,hs]
  simpa using hk o _ rfl
 | c :: rest,i,o,v6,hd,hi,ho,hn,hk => by
  obtain ⟨hi2,hx,hxd⟩ := drop_cons hd
  have hi' : ltB i s.length = true := ltB_iff.2 (by omega)
  have hw := wrap1 (i := i) (by unfold big; omega)
  have hlt := hexVal_lt c
  have c1 : ∀ h,opV G false h .istr (some [.str s,.int .i64 i]) = some (.int .u8 c.toNat,h) := fun h => op_istr hx
  have c2 : ∀ h,opV G false h (.call Fn.q40) (some [.str [48,49,50,51,52,53,54,55,56,57,97,98,99,100,101,102],.int .u8 c.toNat]) = some (.int .i64 (hexVal c),h) := fun h => op_call hI (us := [.str hexDigits,.int .u8 c.toNat]) rfl (by
   simp [F_IndexByte,hexVal]) (.inl rfl)
  simp only [dpR] at hn hk
  refine head_go (Mc.q69_L0.eq_1) ?_
  rw [trunc_len (n := 1) rfl]
  by_cases h0 : hexVal c < 0
  ·have e0 : ltB (hexVal c) 0 = true := ltB_iff.2 h0
   have hf := hn (if_pos h0)
   subst hf
   simp [hi',lenAV,c1,c2,e0,pureQ,Rs.q69]
  ·have e0 : ltB (hexVal c) 0 = false := ltB_not.2 (by omega)
   rw [if_neg h0] at hn
   simp only [if_neg h0] at hk
   obtain ⟨k,hk2⟩ : ∃ k : Nat,hexVal c = k := ⟨(hexVal c).toNat,by omega⟩
   have hk16 : k < 16 := by omega
   rw [hk2,Int.toNat_natCast] at hn hk
   rw [hk2] at c2 e0
   have hj : i / 2 < o.length := by omega
   obtain ⟨v,hv⟩ : ∃ v,v = o.getD (i / 2) 0 := ⟨_,rfl⟩
   have hov : o[i / 2]? = some v := by rw [hv,List.getD_eq_getElem?_getD]; simp [hj]
   rw [← hv] at hn hk
   have q2 := quo2 (i := i) (by omega)
   have s1 := shl16 v
   have s2 := or16 (v.toNat % 16) k (by omega) hk16
   have s3 : IntKind.u8.wrap (k : Int) = k := u8_wrap (by omega)
   obtain ⟨j,hjj⟩ : ∃ j,j = i / 2 := ⟨_,rfl⟩
   rw [← hjj] at q2 hov hn hk hj
   obtain ⟨x,hxx⟩ : ∃ x,x = (v.toNat % 16) * 16 := ⟨_,rfl⟩
   rw [← hxx] at s1 s2
   obtain ⟨y,hyy⟩ : ∃ y,y = x + k := ⟨_,rfl⟩
   rw [← hyy] at s2
   have hy : y < 256 := by omega
   have hrow : (o.map byteRow)[j]? = some (byteRow v) := by simp [hov]
   have ia : iadrAV 1 [Blk.arr 1 0 (o.map byteRow) true] (.own 0 0 32) (.int .i64 j) = some (.eptr 0 0 j 0) := iadr_own (h := [Blk.arr 1 0 (o.map byteRow) true]) rfl (by simp [ho]) hrow rfl
   have ld : loadAV 1 false [Blk.arr 1 0 (o.map byteRow) true] (.eptr 0 0 j 0) = some (.int .u8 v.toNat) := by
    rw [ld_eptr (h := [Blk.arr 1 0 (o.map byteRow) true]) rfl hrow]; rfl
   have st : opV G false [Blk.arr 1 0 (o.map byteRow) true] (.st 1) (some [.eptr 0 0 j 0,.int .u8 y]) = some (.junk,[Blk.arr 1 0 ((o.set j (UInt8.ofNat y)).map byteRow) true]) := by
    have st0 := op_st_eptr (G := G) (s := false) (h := [Blk.arr 1 0 (o.map byteRow) true]) (l := 0) (v := 0) (sz := 1) (n := 1) (off := 0) (x := .int .u8 y) rfl hrow rfl (by omega) rfl (by simp [byteRow]) rfl rfl
    rw [st0]
    have : ((UInt8.ofNat y).toNat : Int) = y := by rw [UInt8.toNat_ofNat']; omega
    have e4 : (o.map byteRow).set j (setAt (byteRow v) 0 (AV.int IntKind.u8 (y : Int)).cells) = (o.set j (UInt8.ofNat y)).map byteRow := by
     rw [List.map_set]
     simp only [byteRow,this]
     rfl
    rw [e4]
    rfl
   have hsb : stepB v k = UInt8.ofNat y := by rw [hyy,hxx]; rfl
   rw [hsb] at hn hk
   have ih := dp_L0 G hI s hs fin rest (i + 1) (o.set j (UInt8.ofNat y)) .junk (by rw [← hxd]) (by omega) (by simpa using ho) hn hk
   simp [hi',lenAV,c1,c2,e0,q2,ia,ld,s1,s2,s3,st,hw,-op_st,-loadAV]
   refine head_of ?_
   rw [trunc_len (n := 1) rfl]
   simpa [junkAll] using ih
theorem dpR_eq : ∀ (m : Nat) (rest pre : Bs),rest.length = 2 * m → dpR (2 * pre.length) rest (pre ++ List.replicate m 0) = (unhex rest).map (pre ++ ·)
 | 0,rest,pre,h => by
  have : rest = [] := List.eq_nil_of_length_eq_zero (by omega)
  subst this
  simp [dpR,unhex]
 | m + 1,rest,pre,h => by
  match rest,h with
  | [],h => simp at h
  | [_],h => simp at h; omega
  | a :: b :: r,h =>
   have hr : r.length = 2 * m := by simp at h; omega
   have d1 : 2 * pre.length / 2 = pre.length := by omega
   have d2 : (2 * pre.length + 1) / 2 = pre.length := by omega
   simp only [dpR,unhex,d1,d2]
   by_cases h1 : hexVal a < 0
   ·simp [h1]
   ·by_cases h2 : hexVal b < 0
    ·simp [h1,h2]
    ·have ha := hexVal_lt a
     have hb := hexVal_lt b
     rw [if_neg h1,if_neg h2,if_neg (by omega)]
     have e0 : (pre ++ List.replicate (m + 1) (0 : UInt8)).getD pre.length 0 = 0 := by
      rw [List.getD_eq_getElem?_getD,List.getElem?_append_right (Nat.le_refl _)]; simp
     have e1 : ∀ x : UInt8,(pre ++ List.replicate (m + 1) (0 : UInt8)).set pre.length x = (pre ++ [x]) ++ List.replicate m 0 := fun x => by
      rw [List.set_append_right _ _ (Nat.le_refl _),Nat.sub_self,List.replicate_succ]; simp
     rw [e0,e1]
     have e2 : ∀ x : UInt8,(pre ++ [x] ++ List.replicate m (0 : UInt8)).getD pre.length 0 = x := fun x => by
      rw [List.getD_eq_getElem?_getD,List.append_assoc,List.getElem?_append_right (Nat.le_refl _)]; simp
     have e3 : ∀ x y : UInt8,(pre ++ [x] ++ List.replicate m (0 : UInt8)).set pre.length y = (pre ++ [y]) ++ List.replicate m 0 := fun x y => by
      rw [List.append_assoc,List.set_append_right _ _ (Nat.le_refl _),Nat.sub_self]; simp
     rw [e2,e3]
     have ih := dpR_eq m r (pre ++ [stepB (stepB 0 (hexVal a).toNat) (hexVal b).toNat]) hr
     rw [List.length_append,List.length_singleton,show 2 * (pre.length + 1) = 2 * pre.length + 1 + 1 by omega] at ih
     rw [ih]
     have e4 : stepB (stepB 0 (hexVal a).toNat) (hexVal b).toNat = UInt8.ofNat (16 * (hexVal a).toNat + (hexVal b).toNat) := by
      have : (stepB 0 (hexVal a).toNat).toNat = (hexVal a).toNat := by
       simp only [stepB]
       rw [UInt8.toNat_ofNat']
       simp
       omega
      unfold stepB at this ⊢
      rw [this]
      congr 1
      omega
     rw [e4]
     cases unhex r <;> simp
theorem unhex_len : ∀ (m : Nat) (s o : Bs),s.length = 2 * m → unhex s = some o → o.length = m
 | 0,s,o,h,ho => by
  have : s = [] := List.eq_nil_of_length_eq_zero (by omega)
  subst this; simp [unhex] at ho; subst ho; rfl
 | m + 1,s,o,h,ho => by
  match s,h with
  | [],h => simp at h
  | [_],h => simp at h; omega
  | a :: b :: r,h =>
   simp only [unhex] at ho
   split at ho
   ·cases ho
   ·obtain ⟨o2,h1,rfl⟩ := Option.map_eq_some_iff.1 ho
    have := unhex_len m r o2 (by simp at h; omega) h1
    simp [this]
theorem dParse_ok {G : Gam} (hI : G Fn.q40 = some (.pure F_IndexByte)) : ∀ args r,F_dParse args = some r → wpM G Mc.q69 (pureQ Rs.q69 r) [] (frInit Ks.q69 args) [] := by
 intro args r hF
 unfold F_dParse at hF
 split at hF
 ·rename_i s
  split at hF
  ·rename_i hb
   injection hF with hF; subst hF
   rw [wpM_go]
   by_cases h64 : s.length = 64
   ·have e1 : eqB (64 : Int) 64 = true := by simp
    have hd := dpR_eq 32 s [] (by omega)
    simp only [List.length_nil,Nat.mul_zero,List.nil_append] at hd
    have hd' : dpR 0 s (List.replicate 32 0) = unhex s := by rw [hd]; cases unhex s <;> rfl
    have lp := fun ks hk => dp_L0 G hI s h64 (dparseE s) (ks := ks) s 0 (List.replicate 32 0) .junk rfl (by omega) (by simp) (fun hn => by
     rw [hd'] at hn; simp [dparseE,h64,hn]) hk
    have hrep : (List.replicate 32 (0 : UInt8)).map byteRow = List.replicate 32 [AV.int .u8 0] := by simp [byteRow]
    rw [hrep] at lp
    have mk := op_mksl (G := G) (s := false) (h := []) (zero := [.int .u8 0]) (bytes := 1) (n := 32) (k := .i64) (k' := .i64) (by unfold byteMax; omega) (by unfold byteMax; omega)
    have mk' : opV G false [] (.mksl [.int .u8 0] 1) (some [.int .i64 32,.int .i64 32]) = some (.own 0 0 32,[.arr 1 0 (List.replicate 32 [.int .u8 0]) true]) := mk
    simp [Mc.q69,Ks.q69,frInit,upd,lkp,lenAV,h64,mk',-List.reduceReplicate]
    refine lp _ (fun o' env ho' => ?_)
    rw [hd'] at ho'
    have hol := unhex_len 32 s o' (by omega) ho'
    have c1 : ∀ st,opV G st [Blk.arr 1 0 (o'.map byteRow) true] .b2s (some [.own 0 0 32]) = some (.str o',[Blk.arr 1 0 (o'.map byteRow) true]) := fun st => by
     have hr : rowsOf [Blk.arr 1 0 (o'.map byteRow) true] (.own 0 0 32) = some (o'.map byteRow) := rows_own (h := [Blk.arr 1 0 (o'.map byteRow) true]) rfl (by simp [hol])
     rw [opV_quiet rfl]
     simp only [evalPure,hr,bytes_back]
     rfl
    have en : dparseE s = (o',0) := by simp [dparseE,h64,ho']
    simp [c1,en,pureQ,Rs.q69]
   ·have e1 : eqB (s.length : Int) 64 = false := eqB_not.2 (by omega)
    have en : dparseE s = ([],4) := by simp [dparseE,h64]
    simp [Mc.q69,Ks.q69,frInit,upd,lkp,lenAV,e1,en,pureQ,Rs.q69]
  ·cases hF
 ·cases hF
end Go.Proofs.YtaadifodgahnjaaGreatDoor
namespace Go.Proofs.YtaadifodgahnjaaGreatDoor
open Go.RowKit
def atoiAV (T : TypeId) (s : Bs) : AV := match Lib.atoiAll s with
 | .ok v => .tup [.int .i64 v,.nili]
 | .range => .tup [.int .i64 (Lib.atoiSat s),.iface T .junk]
 | _ => .tup [.int .i64 0,.iface T .junk]
theorem numEnd_cases (x : Lib.NumEnd Int) : (∃ v,x = .ok v) ∨ x = .range ∨ x = Lib.atoiAll [] := by
 rcases x with v | _ | _
 ·exact .inl ⟨v,rfl⟩
 ·exact .inr (.inr rfl)
 ·exact .inr (.inl rfl)
def F_Atoi (T : TypeId) : List AV → Option AV
 | [.str s] => if s.length ≤ 281474976710656 then some (atoiAV T s) else none
 | _ => none
theorem atoi_pure {P : Program} {gv : Gv} {f g4 g5 T e5 : Nat} {t4 t5 : TypeId} {p4 p5 : Value} (h4 : gv.tb g4 = some [.iface t4 p4]) (h5 : gv.tb g5 = some [.iface t5 p5])
  (hok : ∀ (s : ByteArray),s.size ≤ 9223372036854775806 → ∀ (v : Int),Lib.atoiAll s.data.toList = .ok v → ∀ (w : World),Calls P f #[.string s] w fun e w' => e = .returned (.tuple #[.int .i64 v,.nilIface]) ∧ (w' = w ∨ ∃ t,w' = Lib.bytesWorld w e5 t))
  (hsy : ∀ (s : ByteArray),s.size ≤ 281474976710656 → Lib.atoiAll s.data.toList = Lib.atoiAll [] → ∀ (ev : Value) (w : World),w.cell? ⟨g4,0,none⟩ = some ev → (ev = .nilIface ∨ ∃ te pe,ev = .iface te pe) →
   Calls P f #[.string s] w fun e w' => (∃ N,e = .returned (.tuple #[.int .i64 0,.iface T (.pointer (some ⟨N,0,none⟩))])) ∧ Below w.heap.size w w')
  (hra : ∀ (s : ByteArray),s.size ≤ 281474976710656 → Lib.atoiAll s.data.toList = .range → ∀ (ev : Value) (w : World),w.cell? ⟨g5,0,none⟩ = some ev → (ev = .nilIface ∨ ∃ te pe,ev = .iface te pe) →
   Calls P f #[.string s] w fun e w' => (∃ N,e = .returned (.tuple #[.int .i64 (Lib.atoiSat s.data.toList),.iface T (.pointer (some ⟨N,0,none⟩))])) ∧ Below w.heap.size w w') : PureOK P gv f (F_Atoi T) := by
 refine pure_same fun I w args r vals hI hgl hr hF => ?_
 unfold F_Atoi at hF
 split at hF
 ·rename_i s
  split at hF
  ·rename_i hb
   injection hF with hF; subst hF
   obtain ⟨x,rfl,hx⟩ := one_arg hr
   have := str_inv hx; subst this
   have hsz : (ByteArray.mk s.toArray).size ≤ 281474976710656 := by rw [size_ba]; exact hb
   have hd : (ByteArray.mk s.toArray).data.toList = s := by simp
   rcases numEnd_cases (Lib.atoiAll s) with ⟨v,hv⟩ | hv | hv
   ·have e0 : atoiAV T s = .tup [.int .i64 v,.nili] := by unfold atoiAV; rw [hv]
    rw [e0]
    refine (hok ⟨s.toArray⟩ (by omega) v (by rw [hd]; exact hv) w).mono fun e w' hk => ?_
    obtain ⟨rfl,hk⟩ := hk
    refine ⟨⟨_,rfl,rel_tup2 (.int _ _) .nili⟩,?_⟩
    rcases hk with rfl | ⟨t,rfl⟩
    ·exact Below.refl _ _
    ·exact Lib.bytesWorld_below _ _ _
   ·have e0 : atoiAV T s = .tup [.int .i64 (Lib.atoiSat s),.iface T .junk] := by unfold atoiAV; rw [hv]
    rw [e0]
    obtain ⟨T5,fz,htb⟩ := hgl.tb g5 _ h5
    refine (hra ⟨s.toArray⟩ hsz (by rw [hd]; exact hv) _ w (by rw [cell_of_heap htb]; rfl) (.inr ⟨_,_,rfl⟩)).mono fun e w' hk => ?_
    obtain ⟨⟨N,rfl⟩,hbel⟩ := hk
    rw [hd]
    exact ⟨⟨_,rfl,rel_tup2 (.int _ _) (.iface _ _ _ (.junk _))⟩,hbel⟩
   ·have e0 : atoiAV T s = .tup [.int .i64 0,.iface T .junk] := by unfold atoiAV; rw [hv]; rfl
    rw [e0]
    obtain ⟨T4,fz,htb⟩ := hgl.tb g4 _ h4
    refine (hsy ⟨s.toArray⟩ hsz (by rw [hd]; exact hv) _ w (by rw [cell_of_heap htb]; rfl) (.inr ⟨_,_,rfl⟩)).mono fun e w' hk => ?_
    obtain ⟨⟨N,rfl⟩,hbel⟩ := hk
    exact ⟨⟨_,rfl,rel_tup2 (.int _ _) (.iface _ _ _ (.junk _))⟩,hbel⟩
  ·cases hF
 ·cases hF
def F_Cut : List AV → Option AV
 | [.str s,.str sep] => if s.length < 4294967281 then some (.tup [.str (Lib.cut s sep).1,.str (Lib.cut s sep).2.1,.bool (Lib.cut s sep).2.2]) else none
 | _ => none
theorem cut_pure {P : Program} {gv : Gv} {f g : Nat} {m : Int} (hg : gv g = some [.int .i64 m])
  (hc : ∀ (s sep : ByteArray) (w : World),s.size < 4294967281 → w.cell? ⟨g,0,none⟩ = some (.int .i64 m) → Calls P f #[.string s,.string sep] w fun e w' =>
   e = .returned (.tuple #[.string ⟨(Lib.cut s.data.toList sep.data.toList).1.toArray⟩,.string ⟨(Lib.cut s.data.toList sep.data.toList).2.1.toArray⟩,.bool (Lib.cut s.data.toList sep.data.toList).2.2]) ∧ ∃ n,w' = w.drewN n) : PureOK P gv f F_Cut := by
 refine pure_same fun I w args r vals hI hgl hr hF => ?_
 unfold F_Cut at hF
 split at hF
 ·rename_i s sep
  split at hF
  ·rename_i hb
   injection hF with hF; subst hF
   obtain ⟨x,y,rfl,hx,hy⟩ := two_args hr
   have := str_inv hx; subst this
   have := str_inv hy; subst this
   have hm : w.cell? ⟨g,0,none⟩ = some (.int .i64 m) := by
    have := hgl.gl g _ hg
    cases this with
    | fptr _ _ b o us k1 k2 =>
     have e := k2 0 (.int .i64 m) rfl
     have := int_inv e
     have c0 := hI.cell _ _ _ (k1 0 (.int .i64 m) rfl)
     rw [this] at c0
     simpa using c0
   refine (hc ⟨s.toArray⟩ ⟨sep.toArray⟩ w (by rw [size_ba]; exact hb) hm).mono fun e w' hk => ?_
   obtain ⟨rfl,n,rfl⟩ := hk
   refine ⟨⟨_,rfl,rel_tup3 (.str _) (.str _) (.bool _)⟩,?_⟩
   have := below_grow (w := w) (k := n) (os := #[])
   rwa [Go.Sort.grow_empty] at this
  ·cases hF
 ·cases hF
theorem indexByte_pure {P : Program} {gv : Gv} {f : Nat}
  (hc : ∀ (s : ByteArray) (c : Int) (w : World),Calls P f #[.string s,.int .u8 c] w fun e w' => e = .returned (.int .i64 (Lib.indexByte s.data.toList c.toNat.toUInt8)) ∧ w' = w) : PureOK P gv f F_IndexByte := by
 refine pure_same fun I w args r vals hI hgl hr hF => ?_
 unfold F_IndexByte at hF
 split at hF
 ·rename_i s c
  injection hF with hF; subst hF
  obtain ⟨x,y,rfl,hx,hy⟩ := two_args hr
  have := str_inv hx; subst this
  have := int_inv hy; subst this
  refine (hc ⟨s.toArray⟩ c w).mono fun e w' hk => ?_
  obtain ⟨rfl,rfl⟩ := hk
  exact ⟨⟨_,rfl,.int _ _⟩,Below.refl _ _⟩
 ·cases hF
theorem hasPrefix_pure {P : Program} {gv : Gv} {f : Nat}
  (hc : ∀ (s t : ByteArray) (w : World),Calls P f #[.string s,.string t] w fun e w' => e = .returned (.bool (Lib.hasPrefix s.data.toList t.data.toList)) ∧ w' = w) : PureOK P gv f F_HasPrefix := by
 refine pure_same fun I w args r vals hI hgl hr hF => ?_
 unfold F_HasPrefix at hF
 split at hF
 ·rename_i s t
  injection hF with hF; subst hF
  obtain ⟨x,y,rfl,hx,hy⟩ := two_args hr
  have := str_inv hx; subst this
  have := str_inv hy; subst this
  refine (hc ⟨s.toArray⟩ ⟨t.toArray⟩ w).mono fun e w' hk => ?_
  obtain ⟨rfl,rfl⟩ := hk
  exact ⟨⟨_,rfl,.bool _⟩,Below.refl _ _⟩
 ·cases hF
theorem cloneS_pure {P : Program} {gv : Gv} {f : Nat}
  (hc : ∀ (s : ByteArray) (w : World),s.size ≤ 281474976710656 → Calls P f #[.string s] w fun e w' => e = .returned (.string s) ∧ Below w.heap.size w w') : PureOK P gv f fun args => match args with | [.str s] => if s.length ≤ 281474976710656 then some (.str s) else none | _ => none := by
 refine pure_same fun I w args r vals hI hgl hr hF => ?_
 split at hF
 ·rename_i s
  split at hF
  ·rename_i hs
   injection hF with hF; subst hF
   obtain ⟨x,rfl,hx⟩ := one_arg hr
   have := str_inv hx; subst this
   refine (hc ⟨s.toArray⟩ w (by rw [size_ba]; exact hs)).mono fun e w' hk => ?_
   obtain ⟨rfl,hb⟩ := hk
   exact ⟨⟨_,rfl,.str _⟩,hb⟩
  ·cases hF
 ·cases hF
theorem maxLen_cell {gv : Gv} {I : Nat → Nat → Option Value} {w : World} (hI : Holds I w) (hgl : GvHolds gv I w) {g : Nat} {m : Int} (hg : gv g = some [.int .i64 m]) : w.cell? ⟨g,0,none⟩ = some (.int .i64 m) := by
 have := hgl.gl g _ hg
 cases this with
 | fptr _ _ b o us k1 k2 =>
  have e := k2 0 (.int .i64 m) rfl
  have := int_inv e
  have c0 := hI.cell _ _ _ (k1 0 (.int .i64 m) rfl)
  rw [this] at c0
  simpa using c0
def F_Contains : List AV → Option AV
 | [.str s,.str t] => if s.length < 4294967281 then some (.bool (Lib.contains s t)) else none
 | _ => none
theorem contains_pure {P : Program} {gv : Gv} {f g : Nat} {m : Int} (hg : gv g = some [.int .i64 m])
  (hc : ∀ (s t : ByteArray) (w : World),s.size < 4294967281 → w.cell? ⟨g,0,none⟩ = some (.int .i64 m) → Calls P f #[.string s,.string t] w fun e w' => e = .returned (.bool (Lib.contains s.data.toList t.data.toList)) ∧ w' = w) : PureOK P gv f F_Contains := by
 refine pure_same fun I w args r vals hI hgl hr hF => ?_
 unfold F_Contains at hF
 split at hF
 ·rename_i s t
  split at hF
  ·rename_i hb
   injection hF with hF; subst hF
   obtain ⟨x,y,rfl,hx,hy⟩ := two_args hr
   have := str_inv hx; subst this
   have := str_inv hy; subst this
   refine (hc ⟨s.toArray⟩ ⟨t.toArray⟩ w (by rw [size_ba]; exact hb) (maxLen_cell hI hgl hg)).mono fun e w' hk => ?_
   obtain ⟨rfl,rfl⟩ := hk
   exact ⟨⟨_,rfl,.bool _⟩,Below.refl _ _⟩
  ·cases hF
 ·cases hF
def F_Count1 : List AV → Option AV
 | [.str s,.str [c]] => some (.int .i64 (Lib.countByte s c))
 | _ => none
theorem count1_pure {P : Program} {gv : Gv} {f : Nat}
  (hc : ∀ (s : ByteArray) (c : UInt8) (w : World),Calls P f #[.string s,.string ⟨#[c]⟩] w fun e w' => e = .returned (.int .i64 (Lib.countByte s.data.toList c)) ∧ w' = w) : PureOK P gv f F_Count1 := by
 refine pure_same fun I w args r vals hI hgl hr hF => ?_
 unfold F_Count1 at hF
 split at hF
 ·rename_i s c
  injection hF with hF; subst hF
  obtain ⟨x,y,rfl,hx,hy⟩ := two_args hr
  have := str_inv hx; subst this
  have := str_inv hy; subst this
  refine (hc ⟨s.toArray⟩ c w).mono fun e w' hk => ?_
  obtain ⟨rfl,rfl⟩ := hk
  exact ⟨⟨_,rfl,.int _ _⟩,Below.refl _ _⟩
 ·cases hF
def F_Compare : List AV → Option AV
 | [.str s,.str t] => some (.int .i64 (Lib.compareBytes s t))
 | _ => none
theorem compare_pure {P : Program} {gv : Gv} {f : Nat}
  (hc : ∀ (s t : ByteArray) (w : World),Calls P f #[.string s,.string t] w fun e w' => e = .returned (.int .i64 (Lib.compareBytes s.data.toList t.data.toList)) ∧ w' = w) : PureOK P gv f F_Compare := by
 refine pure_same fun I w args r vals hI hgl hr hF => ?_
 unfold F_Compare at hF
 split at hF
 ·rename_i s t
  injection hF with hF; subst hF
  obtain ⟨x,y,rfl,hx,hy⟩ := two_args hr
  have := str_inv hx; subst this
  have := str_inv hy; subst this
  refine (hc ⟨s.toArray⟩ ⟨t.toArray⟩ w).mono fun e w' hk => ?_
  obtain ⟨rfl,rfl⟩ := hk
  exact ⟨⟨_,rfl,.int _ _⟩,Below.refl _ _⟩
 ·cases hF
end Go.Proofs.YtaadifodgahnjaaGreatDoor
namespace Go.Proofs.YtaadifodgahnjaaGreatDoor
open Go.RowKit Go.IntWalk
def digitN (n : Nat) : Int := if 48 ≤ n ∧ n ≤ 57 then (n : Int) - 48 else if 97 ≤ n ∧ n ≤ 102 then (n : Int) - 87 else -1
set_option maxRecDepth 20000 in
theorem digit_all : ∀ n : Fin 256,hexVal (UInt8.ofNat n.val) = digitN n.val := by decide
theorem digit_eq (c : UInt8) : hexVal c = digitN c.toNat := by
 have := digit_all ⟨c.toNat,c.toNat_lt⟩
 simpa using this
def F_digit : List AV → Option AV
 | [.int .u8 n] => if 0 ≤ n ∧ n < 256 then some (.int .i64 (digitN n.toNat)) else none
 | _ => none
theorem digit_ok {G : Gam} : ∀ args r,F_digit args = some r → wpM G Mc.q51 (pureQ Rs.q51 r) [] (frInit Ks.q51 args) [] := by
 intro args r hF
 unfold F_digit at hF
 split at hF
 ·rename_i n0
  split at hF
  ·rename_i hn
   injection hF with hF; subst hF
   obtain ⟨n,rfl⟩ : ∃ n : Nat,n0 = n := ⟨n0.toNat,by omega⟩
   have hn2 : n < 256 := by omega
   simp only [Int.toNat_natCast]
   rw [wpM_go]
   have sub : ∀ k : Nat,k ≤ n → IntKind.u8.wrap ((n : Int) - (k : Int)) = ((n - k : Nat) : Int) := fun k hk => by
    rw [show (n : Int) - k = ((n - k : Nat) : Int) by omega]; exact u8_wrap (by omega)
   have w48 := sub 48
   have w97 := sub 97
   have alpha : 97 ≤ n → n ≤ 102 → digitN n = ((n - 97 : Nat) : Int) + 10 := fun a b => by
    unfold digitN; rw [if_neg (by omega),if_pos ⟨a,b⟩]; omega
   have none1 : ¬ (48 ≤ n ∧ n ≤ 57) → ¬ (97 ≤ n ∧ n ≤ 102) → digitN n = -1 := fun a b => by unfold digitN; rw [if_neg a,if_neg b]
   have second : ¬ (48 ≤ n ∧ n ≤ 57) → goM G (.seq (.seq (.reg [
     ⟨none,some 12,false,.mv,[.t 0]⟩,
     ⟨none,some 13,false,.bin .geq,[.t 12,.c (.int .u8 97)]⟩,
     ⟨none,some 14,false,.mv,[.t 13]⟩,
     ⟨some (14,true),some 15,false,.mv,[.t 0]⟩,
     ⟨some (14,true),some 16,false,.bin .leq,[.t 15,.c (.int .u8 102)]⟩,
     ⟨none,some 17,false,.pick,[.t 14,.t 16,.c (.bool false)]⟩])
    (.ite (.t 17)
     (.seq (.reg [
      ⟨none,some 18,false,.mv,[.t 0]⟩,
      ⟨none,some 19,false,.bin .sub,[.t 18,.c (.int .u8 97)]⟩,
      ⟨none,some 20,false,.conv .i64,[.t 19]⟩,
      ⟨none,some 21,false,.bin .add,[.t 20,.c (.int .i64 10)]⟩,
      ⟨none,some 2,true,.mv,[.t 21]⟩])
     .ret)
     .skip))
    (.seq (.reg [
     ⟨none,some 2,true,.mv,[.c (.int .i64 (-1))]⟩])
    .ret)) [] (pureQ Rs.q51 (.int .i64 (digitN n))) [] [(0,.int .u8 n),(2,.int .i64 0)] [] := fun hno => by
    by_cases h1 : 97 ≤ n
    ·have e1 : ltB (n : Int) 97 = false := ltB_not.2 (by omega)
     by_cases h2 : n ≤ 102
     ·have e2 : ltB (102 : Int) n = false := ltB_not.2 (by omega)
      have w := w97 h1
      have w1 : IntKind.i64.wrap ((n - 97 : Nat) : Int) = ((n - 97 : Nat) : Int) := i64_in _ ⟨by omega,by omega⟩
      have w2 : IntKind.i64.wrap (((n - 97 : Nat) : Int) + 10) = ((n - 97 : Nat) : Int) + 10 := i64_in _ ⟨by omega,by omega⟩
      rw [alpha h1 h2]
      obtain ⟨q,hq⟩ : ∃ q,q = n - 97 := ⟨_,rfl⟩
      rw [← hq] at w w1 w2 ⊢
      have w' : IntKind.u8.wrap ((n : Int) - 97) = q := w
      simp [e1,e2,w',w1,w2,upd,lkp,pureQ,Rs.q51]
     ·have e2 : ltB (102 : Int) n = true := ltB_iff.2 (by omega)
      rw [none1 hno (by omega)]
      simp [e1,e2,upd,lkp,pureQ,Rs.q51]
    ·have e1 : ltB (n : Int) 97 = true := ltB_iff.2 (by omega)
     rw [none1 hno (by omega)]
     simp [e1,upd,lkp,pureQ,Rs.q51]
   by_cases h1 : 48 ≤ n
   ·have e1 : ltB (n : Int) 48 = false := ltB_not.2 (by omega)
    by_cases h2 : n ≤ 57
    ·have e2 : ltB (57 : Int) n = false := ltB_not.2 (by omega)
     have w := w48 h1
     have w1 : IntKind.i64.wrap ((n - 48 : Nat) : Int) = ((n - 48 : Nat) : Int) := i64_in _ ⟨by omega,by omega⟩
     have e : digitN n = ((n - 48 : Nat) : Int) := by unfold digitN; rw [if_pos ⟨h1,h2⟩]; omega
     rw [e]
     obtain ⟨q,hq⟩ : ∃ q,q = n - 48 := ⟨_,rfl⟩
     rw [← hq] at w w1 ⊢
     have w' : IntKind.u8.wrap ((n : Int) - 48) = q := w
     simp [Mc.q51,Ks.q51,frInit,upd,lkp,e1,e2,w',w1,pureQ,Rs.q51]
    ·have e2 : ltB (57 : Int) n = true := ltB_iff.2 (by omega)
     have sc := second (by omega)
     rw [go_seq] at sc
     simp only [Mc.q51,Ks.q51,frInit]
     simp [upd,lkp,e1,e2] at sc ⊢
     exact sc
   ·have e1 : ltB (n : Int) 48 = true := ltB_iff.2 (by omega)
    have sc := second (by omega)
    rw [go_seq] at sc
    simp only [Mc.q51,Ks.q51,frInit]
    simp [upd,lkp,e1] at sc ⊢
    exact sc
  ·cases hF
 ·cases hF
end Go.Proofs.YtaadifodgahnjaaGreatDoor
namespace Go.Proofs.YtaadifodgahnjaaGreatDoor
open Go.RowKit Go.IntWalk
def OutI (o : Bs) (x : AV) (h : Heap) : Prop := x = .own 0 o.length o.length ∧ h = [.arr 1 o.length (o.map byteRow) true]
theorem OutI.rows {o : Bs} {x : AV} {h : Heap} (hi : OutI o x h) : rowsOf h x = some (o.map byteRow) := by
 obtain ⟨rfl,rfl⟩ := hi
 exact rows_own (h := [.arr 1 o.length (o.map byteRow) true]) rfl (by simp)
theorem OutI.trunc {o : Bs} {x : AV} {h : Heap} (hi : OutI o x h) (fr : List (Nat × AV)) : trunc 1 fr h = h := by
 obtain ⟨rfl,rfl⟩ := hi
 exact vtrunc_len rfl
theorem OutI.next {G : Gam} {o : Bs} {x : AV} {h : Heap} (b : UInt8) (hi : OutI o x h) (hb : o.length < big) :
  ∃ x' h',opV G false h (.app false 1 1) (some [x,.tsl [[.int .u8 (b.toNat : Int)]]]) = some (x',h') ∧ OutI (o ++ [b]) x' h' := by
 obtain ⟨rfl,rfl⟩ := hi
 have := op_app1 (G := G) (s := false) (h := [.arr 1 o.length (o.map byteRow) true]) (e := byteRow) (n := 1) (b := 1) (l := 0) (os := o) (x := b) rfl rfl (by omega) hb
 exact ⟨_,_,this,rfl,rfl⟩
theorem bytes_L0 (G : Gam) (hD : G Fn.q51 = some (.pure F_digit)) (s : Bs) (hs : s.length = 64) (fin : Bs × Int) {ks : List MK} : ∀ (m : Nat) (rest : Bs) (i : Nat) (o : Bs) (x : AV) (h : Heap) (v6 v7 : AV),rest.length = 2 * m → s.drop i = rest → i + 2 * m = 64 → 2 * o.length = i → OutI o x h →
  (unhex rest = none → fin = ([],4)) →
  (∀ o' env x h,unhex rest = some o' → rowsOf h x = some ((o ++ o').map byteRow) → exM G .normal ks (pureQ Rs.q46 (.tup [.str fin.1,.int .i64 fin.2])) env [(0,.str s),(2,.str []),(3,.int .i64 0),(4,x),(5,.int .i64 64),(6,.junk),(7,.junk)] h) →
  headM G [6,7] Mc.q46_L0 1 (.blk 0 :: ks) (pureQ Rs.q46 (.tup [.str fin.1,.int .i64 fin.2])) [(0,.str s),(2,.str []),(3,.int .i64 0),(4,x),(5,.int .i64 i),(6,v6),(7,v7)] h
 | 0,rest,i,o,x,h,v6,v7,hm,hd,hi,ho,hI,hn,hk => by
  have hr0 : rest = [] := List.eq_nil_of_length_eq_zero (by omega)
  subst hr0
  have e : i = 64 := by omega
  subst e
  refine head_go (Mc.q46_L0.eq_1) ?_
  rw [hI.trunc _]
  have hr := hI.rows
  simp [lenAV,hs]
  simpa using hk [] _ x h rfl (by simpa using hr)
 | m + 1,rest,i,o,x,h,v6,v7,hm,hd,hi,ho,hI,hn,hk => by
  match rest,hm with
  | [],hm => simp at hm
  | [_],hm => simp at hm; omega
  | a :: b :: r,hm =>
   have hr : r.length = 2 * m := by simp at hm; omega
   obtain ⟨_,hxa,hxd⟩ := drop_cons hd
   obtain ⟨_,hxb,hxd2⟩ := drop_cons hxd
   have hi' : ltB i 64 = true := ltB_iff.2 (by omega)
   obtain ⟨j,hj⟩ : ∃ j,j = i + 1 := ⟨_,rfl⟩
   obtain ⟨t,ht⟩ : ∃ t,t = i + 2 := ⟨_,rfl⟩
   have w1 : IntKind.i64.wrap ((i : Int) + 1) = (j : Int) := by rw [hj]; exact wrap1 (i := i) (by unfold big; omega)
   have w2 : IntKind.i64.wrap ((i : Int) + 2) = (t : Int) := by rw [show (i : Int) + 2 = (t : Int) by omega]; exact i64_in _ ⟨by omega,by omega⟩
   rw [← hj] at hxb
   have ha := hexVal_lt a
   have hb := hexVal_lt b
   have hla := (index_lt hexDigits a).2
   have hlb := (index_lt hexDigits b).2
   have dg : ∀ (c : UInt8) h,opV G true h (.call Fn.q51) (some [.int .u8 (c.toNat : Int)]) = some (.int .i64 (hexVal c),h) := fun c h => op_call hD (us := [.int .u8 c.toNat]) rfl (by
    have := c.toNat_lt
    simp only [F_digit]; rw [if_pos ⟨by omega,by omega⟩,digit_eq]; simp) (.inl rfl)
   have c1 : ∀ h,opV G true h .istr (some [.str s,.int .i64 i]) = some (.int .u8 a.toNat,h) := fun h => op_istr hxa
   have c2 := dg a
   have c3 : ∀ h,opV G true h .istr (some [.str s,.int .i64 (j : Int)]) = some (.int .u8 b.toNat,h) := fun h => op_istr hxb
   have c4 := dg b
   simp only [unhex] at hn hk
   refine head_go (Mc.q46_L0.eq_1) ?_
   rw [hI.trunc _]
   by_cases h0 : hexVal a < 0
   ·have e0 : ltB (hexVal a) 0 = true := ltB_iff.2 h0
    have hf := hn (if_pos (.inl h0))
    subst hf
    simp [hi',lenAV,hs,c1,c2,c3,c4,w1,e0,pureQ,Rs.q46]
   ·have e0 : ltB (hexVal a) 0 = false := ltB_not.2 (by omega)
    by_cases h1 : hexVal b < 0
    ·have e1 : ltB (hexVal b) 0 = true := ltB_iff.2 h1
     have hf := hn (if_pos (.inr h1))
     subst hf
     simp [hi',lenAV,hs,c1,c2,c3,c4,w1,e0,e1,pureQ,Rs.q46]
    ·have e1 : ltB (hexVal b) 0 = false := ltB_not.2 (by omega)
     rw [if_neg (by omega)] at hn
     simp only [if_neg (show ¬ (hexVal a < 0 ∨ hexVal b < 0) by omega)] at hk
     obtain ⟨p,hp⟩ : ∃ p : Nat,hexVal a = p := ⟨(hexVal a).toNat,by omega⟩
     obtain ⟨q,hq⟩ : ∃ q : Nat,hexVal b = q := ⟨(hexVal b).toNat,by omega⟩
     rw [hp,hq] at hn
     simp only [hp,hq,Int.toNat_natCast] at hk hn
     rw [hp] at c2 e0
     rw [hq] at c4 e1
     obtain ⟨y,hy⟩ : ∃ y,y = 16 * p + q := ⟨_,rfl⟩
     have hy2 : y < 256 := by omega
     have wm : IntKind.i64.wrap (16 * (p : Int)) = 16 * (p : Int) := i64_in _ ⟨by omega,by omega⟩
     have wa : IntKind.i64.wrap (16 * (p : Int) + q) = y := by rw [show 16 * (p : Int) + q = (y : Int) by omega]; exact i64_in _ ⟨by omega,by omega⟩
     have wc : IntKind.u8.wrap (y : Int) = y := u8_wrap hy2
     rw [← hy] at hn hk
     obtain ⟨x',h',c5,hI'⟩ := hI.next (G := G) (UInt8.ofNat y) (by unfold big; omega)
     have hyb : ((UInt8.ofNat y).toNat : Int) = y := by rw [UInt8.toNat_ofNat']; omega
     rw [hyb] at c5
     have ih := bytes_L0 G hD s hs fin m r t (o ++ [UInt8.ofNat y]) x' h' (.int .i64 p) (.int .i64 q) hr (by rw [ht,← hxd2]) (by omega) (by simp; omega) hI' (fun hh => hn (by rw [hh]; rfl)) (fun o' env x h ho' hro => hk (UInt8.ofNat y :: o') env x h (by rw [ho']; rfl) (by rw [hro]; simp))
     simp [hi',lenAV,hs,c1,c2,c3,c4,w1,e0,e1,wm,wa,wc,c5,w2,ownsL,owns,viewL,view,sizesOk,onesOk,oneC,AV.cells]
     exact ih
theorem bytes_ok {G : Gam} (hD : G Fn.q51 = some (.pure F_digit)) : ∀ args r,F_dParse args = some r → wpM G Mc.q46 (pureQ Rs.q46 r) [] (frInit Ks.q46 args) [] := by
 intro args r hF
 unfold F_dParse at hF
 split at hF
 ·rename_i s
  split at hF
  ·rename_i hb
   injection hF with hF; subst hF
   rw [wpM_go]
   by_cases h64 : s.length = 64
   ·have lp := fun ks hk => bytes_L0 G hD s h64 (dparseE s) (ks := ks) 32 s 0 [] (.own 0 0 0) [.arr 1 0 [] true] .junk .junk (by omega) rfl (by omega) rfl ⟨rfl,rfl⟩ (fun hn => by simp [dparseE,h64,hn]) hk
    simp [Mc.q46,Ks.q46,frInit,upd,lkp,lenAV,h64]
    refine lp _ (fun o' env x h ho' hr => ?_)
    rw [List.nil_append] at hr
    have c1 : ∀ st,opV G st h .b2s (some [x]) = some (.str o',h) := fun st => by
     rw [opV_quiet rfl]
     simp [evalPure,hr,bytes_back]
    have en : dparseE s = (o',0) := by simp [dparseE,h64,ho']
    simp [c1,en,pureQ,Rs.q46]
   ·have e1 : eqB (s.length : Int) 64 = false := eqB_not.2 (by omega)
    have en : dparseE s = ([],4) := by simp [dparseE,h64]
    simp [Mc.q46,Ks.q46,frInit,upd,lkp,lenAV,e1,en,pureQ,Rs.q46]
  ·cases hF
 ·cases hF
end Go.Proofs.YtaadifodgahnjaaGreatDoor
namespace Go.Proofs.YtaadifodgahnjaaGreatDoor
open Go.RowKit Go.IntWalk
def sRow (w : Bs) : List AV := [.str w]
def SpH (os : List Bs) : Heap := [.arr 1 0 [] true,.arr 1 os.length (os.map sRow) true]
def F_Split03 : List AV → Option AV
 | [.str s,.int .u8 e] => if s.length ≤ 1000000 ∧ 0 ≤ e ∧ e < 256 then some (.sl ((splitBy (UInt8.ofNat e.toNat) s).map sRow)) else none
 | _ => none
theorem sp_app {G : Gam} (os : List Bs) (w : Bs) (hb : os.length < big) : opV G false (SpH os) (.app false 1 16) (some [.own 1 os.length os.length,.tsl [[.str w]]]) = some (.own 1 (os ++ [w]).length (os ++ [w]).length,SpH (os ++ [w])) :=
 op_app1 (e := sRow) (l := 1) (os := os) (x := w) rfl rfl (by omega) hb
theorem take_drop_snoc {s : Bs} {f i : Nat} {b : UInt8} (hf : f ≤ i) (hb : s[i]? = some b) : (s.take (i + 1)).drop f = (s.take i).drop f ++ [b] := by
 have hlt : i < s.length := (List.getElem?_eq_some_iff.1 hb).1
 rw [List.take_add_one,hb,List.drop_append_of_le_length (by rw [List.length_take]; omega)]; rfl
theorem split03_L0 (G : Gam) (s : Bs) (c : UInt8) (hs : s.length ≤ 1000000) : ∀ (rest : Bs) (i f : Nat) (os : List Bs),s.drop i = rest → i ≤ s.length → f ≤ i → os.length ≤ i → splitBy c s = os ++ preP ((s.take i).drop f) (splitBy c rest) →
  headM G [] Mc.q50_L0 2 [.blk 0,.seq (.seq (.reg [⟨none,some 28,false,.mv,[.t 5]⟩,⟨none,some 29,false,.mv,[.t 0]⟩,⟨none,some 30,false,.mv,[.t 6]⟩,⟨none,some 31,false,.slc none true false false,[.t 29,.t 30]⟩,
   ⟨none,some 32,false,.bsl false 1,[.t 31]⟩,⟨none,some 33,false,.app false 1 16,[.t 28,.t 32]⟩,⟨none,some 4,true,.mv,[.t 33]⟩]) .ret)] (pureQ Rs.q50 (.sl ((splitBy c s).map sRow)))
   [(0,.str s),(1,.int .u8 c.toNat),(4,.own 0 0 0),(5,.own 1 os.length os.length),(6,.int .i64 f),(7,.int .i64 i)] (SpH os)
 | [],i,f,os,hd,hi,hf,ho,hr => by
  have hi2 := drop_nil hd
  have e : i = s.length := by omega
  subst e
  have hl : ltB (s.length : Int) (s.length : Int) = false := ltB_not.2 (by omega)
  have sl : ∀ st h,opV G st h (.slc none true false false) (some [.str s,.int .i64 f]) = some (.str (s.drop f),h) := fun st h => slc_lo (k := f) rfl hf
  have ap := sp_app (G := G) os (s.drop f) (by unfold big; omega)
  rw [List.take_length] at hr
  have hr2 : splitBy c s = os ++ [s.drop f] := by simpa [splitBy,preP] using hr
  rw [hr2]
  refine head_go (Mc.q50_L0.eq_1) ?_
  rw [vtrunc_len (n := 2) rfl]
  have vw : rowsOf (SpH (os ++ [s.drop f])) (.own 1 (os ++ [s.drop f]).length (os ++ [s.drop f]).length) = some ((os ++ [s.drop f]).map sRow) :=
   rows_own (h := SpH (os ++ [s.drop f])) (l := 1) (sz := 1) (rows := (os ++ [s.drop f]).map sRow) (wr := true) rfl (by simp)
  simp [lenAV,sl,ownsL,owns,viewL,sizesOk,onesOk,oneC,AV.cells,ap,vw,pureQ,Rs.q50,-List.length_append,-List.map_append]
 | b :: rest,i,f,os,hd,hi,hf,ho,hr => by
  obtain ⟨hlt,hx,hxd⟩ := drop_cons hd
  have hl : ltB (i : Int) (s.length : Int) = true := ltB_iff.2 (by omega)
  have hw : IntKind.i64.wrap ((i : Int) + 1) = ((i + 1 : Nat) : Int) := wrap1 (by unfold big; omega)
  have is : ∀ st h,opV G st h .istr (some [.str s,.int .i64 i]) = some (.int .u8 b.toNat,h) := fun st h => op_istr hx
  refine head_go (Mc.q50_L0.eq_1) ?_
  rw [vtrunc_len (n := 2) rfl]
  by_cases hbc : b = c
  ·subst hbc
   rw [split_hit] at hr
   have sl : ∀ st h,opV G st h (.slc none true true false) (some [.str s,.int .i64 f,.int .i64 i]) = some (.str ((s.take i).drop f),h) := fun st h => slc_both rfl rfl hf hi
   have ap := sp_app (G := G) os ((s.take i).drop f) (by unfold big; omega)
   have hr2 : splitBy b s = (os ++ [(s.take i).drop f]) ++ preP ((s.take (i + 1)).drop (i + 1)) (splitBy b rest) := by
    have e : (s.take (i + 1)).drop (i + 1) = [] := by rw [List.drop_eq_nil_iff,List.length_take]; omega
    rw [e,preP_nil _ (splitBy_ne b rest),hr]; simp
   have ih := split03_L0 G s b hs rest (i + 1) (i + 1) (os ++ [(s.take i).drop f]) hxd (by omega) (by omega) (by simp; omega) hr2
   simp [lenAV,hl,is,sl,ownsL,owns,viewL,view,sizesOk,onesOk,oneC,AV.cells,ap,hw,-List.length_append]
   refine head_of ?_
   simpa [vtrunc_len (n := 2) (show (SpH _).length = 2 from rfl)] using ih
  ·have q : eqB (b.toNat : Int) (c.toNat : Int) = false := eqB_not.2 fun e => hbc (UInt8.toNat_inj.1 (by omega))
   rw [split_step hbc] at hr
   have hr2 : splitBy c s = os ++ preP ((s.take (i + 1)).drop f) (splitBy c rest) := by rw [take_drop_snoc hf hx]; exact hr
   have ih := split03_L0 G s c hs rest (i + 1) f os hxd (by omega) (by omega) (by omega) hr2
   simp [lenAV,hl,is,q,hw]
   refine head_of ?_
   simpa [vtrunc_len (n := 2) (show (SpH _).length = 2 from rfl)] using ih
theorem Split03_ok {G : Gam} : ∀ args r,F_Split03 args = some r → wpM G Mc.q50 (pureQ Rs.q50 r) [] (frInit Ks.q50 args) [] := by
 intro args r hF
 unfold F_Split03 at hF
 split at hF
 ·rename_i s e
  split at hF
  ·rename_i hc
   injection hF with hF; subst hF
   obtain ⟨h1,h2,h3⟩ := hc
   obtain ⟨E,hE⟩ : ∃ E : UInt8,e = (E.toNat : Int) := ⟨UInt8.ofNat e.toNat,by rw [UInt8.toNat_ofNat']; omega⟩
   subst hE
   have eE : UInt8.ofNat ((E.toNat : Int)).toNat = E := by simp
   rw [eE,wpM_go]
   have ih := split03_L0 G s E h1 s 0 0 [] rfl (by omega) (by omega) (by simp) (by simp [preP_nil _ (splitBy_ne E s)])
   simp [Mc.q50,frInit,Ks.q50]
   simpa [SpH] using ih
  ·cases hF
 ·cases hF
end Go.Proofs.YtaadifodgahnjaaGreatDoor
namespace Go.Proofs.YtaadifodgahnjaaGreatDoor
open Go.RowKit Go.IntWalk
theorem sRow_get {ws : List Bs} {i : Nat} {w : Bs} (h : ws[i]? = some w) : (ws.map sRow)[i]? = some [.str w] := by simp [h,sRow]
theorem path_L0 (G : Gam) (hN : G Fn.q59 = some (.pure F_name)) (s : Bs) (hs : s.length ≤ 128) (ws : List Bs) (hw8 : ws.length ≤ 8) (hws : ∀ w ∈ ws,w.length ≤ big) (r : Int) : ∀ (rest : List Bs) (i : Nat) (x : AV),ws.drop i = rest → r = (if rest.all partOK then 0 else 2) →
  headM G [5] Mc.q57_L0 0 [.blk 0,.seq (.seq (.reg [⟨none,some 2,true,.mv,[.c (.int .i64 0)]⟩]) .ret)] (pureQ Rs.q57 (.int .i64 r))
   [(0,.str s),(2,.int .i64 0),(3,.sl (ws.map sRow)),(5,x),(14,.sl (ws.map sRow)),(15,.int .i64 ws.length),(16,.int .i64 i)] []
 | [],i,x,hd,hr => by
  have hi2 := drop_nil hd
  have hl : ltB (i : Int) (ws.length : Int) = false := ltB_not.2 (by omega)
  simp only [List.all_nil,if_true] at hr
  subst hr
  refine head_go (Mc.q57_L0.eq_1) ?_
  simp [hl,vtrunc_len (n := 0) (h := []) rfl,pureQ,Rs.q57]
 | w :: rest,i,x,hd,hr => by
  obtain ⟨hlt,hx,hxd⟩ := drop_cons hd
  have hl : ltB (i : Int) (ws.length : Int) = true := ltB_iff.2 (by omega)
  have hw := wrap1 (i := i) (by unfold big; omega)
  have hrow := sRow_get hx
  have ir : ∀ st h,opV G st h (.iadr 1) (some [.sl (ws.map sRow),.int .i64 i]) = some (.fptr [.str w] 0,h) := fun st h => by
   rw [opV_quiet rfl]; simp [evalPure,iadrAV,hrow]
  have cn : ∀ st h,opV G st h (.call Fn.q59) (some [.str w]) = some (.bool (partOK w),h) := fun st h => op_call hN (us := [.str w]) rfl (F1_use (A := eStr) (R := eBool) (x := w) (by simp [hws w (List.mem_of_getElem? hx)])) (.inl rfl)
  refine head_go (Mc.q57_L0.eq_1) ?_
  cases hp : partOK w with
  | false =>
   rw [hp] at cn
   simp only [List.all_cons,hp,Bool.false_and,Bool.false_eq_true,if_false] at hr
   subst hr
   simp [hl,vtrunc_len (n := 0) (h := []) rfl,ir,cn,pureQ,Rs.q57]
  | true =>
   rw [hp] at cn
   simp only [List.all_cons,hp,Bool.true_and] at hr
   have ih := path_L0 G hN s hs ws hw8 hws r rest (i + 1) (.str w) hxd hr
   simp [hl,vtrunc_len (n := 0) (h := []) rfl,ir,cn,hw]
   simpa using ih
theorem Path03_ok {G : Gam} (hN : G Fn.q59 = some (.pure F_name)) (hS : G Fn.q50 = some (.pure F_Split03)) : ∀ args r,F_Path args = some r → wpM G Mc.q57 (pureQ Rs.q57 r) [] (frInit Ks.q57 args) [] := F1_ok fun s r h => by
 split at h
 ·rename_i hs
  injection h with h; subst h
  rw [wpM_go]
  by_cases h1 : 128 < s.length
  ·have q : ltB 128 (s.length : Int) = true := ltB_iff.2 (by omega)
   have e : pathOK s = false := by simp [pathOK,q]
   rw [e]
   simp [Mc.q57,frInit,Ks.q57,lenAV,q,pureQ,Rs.q57]
  ·have q : ltB 128 (s.length : Int) = false := ltB_not.2 (by omega)
   have cs : ∀ st h,opV G st h (.call Fn.q50) (some [.str s,.int .u8 47]) = some (.sl ((splitBy 47 s).map sRow),h) := fun st h => op_call hS (us := [.str s,.int .u8 47]) rfl (by
    simp only [F_Split03]; rw [if_pos ⟨by omega,by omega,by omega⟩]; rfl) (.inr rfl)
   by_cases h2 : 8 < (splitBy 47 s).length
   ·have q2 : ltB 8 ((splitBy 47 s).length : Int) = true := ltB_iff.2 (by omega)
    have e : pathOK s = false := by simp [pathOK,q,q2]
    rw [e]
    simp [Mc.q57,frInit,Ks.q57,lenAV,q,q2,cs,pureQ,Rs.q57]
   ·have q2 : ltB 8 ((splitBy 47 s).length : Int) = false := ltB_not.2 (by omega)
    have e : pathOK s = (splitBy 47 s).all partOK := by simp [pathOK,q,q2]
    rw [e]
    have hwl : ∀ (c : UInt8) (s w : Bs),w ∈ splitBy c s → w.length ≤ s.length := by
     intro c s
     induction s with
     | nil => intro w hw; simp [splitBy] at hw; subst hw; simp
     | cons b t ih =>
      intro w hw
      simp only [splitBy] at hw
      split at hw
      ·rcases List.mem_cons.1 hw with rfl | hw
       ·simp
       ·have := ih w hw; simp; omega
      ·split at hw
       ·rename_i p ps hps
        rcases List.mem_cons.1 hw with rfl | hw
        ·have := ih p (by rw [hps]; exact List.mem_cons_self); simp; omega
        ·have := ih w (by rw [hps]; exact List.mem_cons_of_mem _ hw); simp; omega
       ·simp at hw; subst hw; simp
    have ih := path_L0 G hN s (by omega) (splitBy 47 s) (by omega) (fun w hw => by have := hwl 47 s w hw; unfold big; omega) _ (splitBy 47 s) 0 .junk rfl rfl
    simp [Mc.q57,frInit,Ks.q57,lenAV,q,q2,cs]
    simpa using ih
 ·cases h
end Go.Proofs.YtaadifodgahnjaaGreatDoor
