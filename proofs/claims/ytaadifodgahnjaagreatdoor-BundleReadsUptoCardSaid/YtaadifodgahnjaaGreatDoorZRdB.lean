/- Manifests: the size of a file,read by the reference. Manifests: a line for a file,read by the program. Manifests: read by the reference. Manifests: read by the program. The law BundleReads,walked. -/
import Derived.Test.YtaadifodgahnjaaGreatDoorZRdA
import Derived.Test.YtaadifodgahnjaaGreatDoorZRmV
import Derived.Test.YtaadifodgahnjaaGreatDoorZRmI
import Derived.Sort.Walk0
namespace Go.Proofs.YtaadifodgahnjaaGreatDoor
open Go.RowKit Go.IntWalk
def okU (a : Nat) (s : Bs) : Bool := match Lib.parseUint10 a s with
 | .ok v => decide (v ≤ 65536)
 | _ => false
def F_size46 : List AV → Option AV
 | [.str s] => if s.length ≤ 1000000 then some (.bool (sizeR s)) else none
 | _ => none
theorem size46_L0 (G : Gam) (s : Bs) (h5 : s.length ≤ 5) : ∀ (rest : Bs) (i a : Nat),s.drop i = rest → a < 10 ^ i →
  headM G [] Mc.q58_L0 0 [.blk 0,.seq (.seq (.reg [⟨none,some 47,false,.mv,[.t 3]⟩,⟨none,some 48,false,.bin .leq,[.t 47,.c (.int .i64 65536)]⟩,⟨none,some 2,true,.mv,[.t 48]⟩]) .ret)] (pureQ Rs.q58 (.bool (okU a rest)))
   [(0,.str s),(2,.bool false),(3,.int .i64 a),(4,.int .i64 i)] []
 | [],i,a,hd,ha => by
  have hi := drop_nil hd
  have hl : ltB (i : Int) (s.length : Int) = false := ltB_not.2 (by omega)
  have he : okU a [] = !ltB 65536 (a : Int) := by
   simp only [okU,Lib.parseUint10]
   by_cases h : a ≤ 65536
   ·rw [ltB_not.2 (by omega)]; simp [h]
   ·rw [ltB_iff.2 (by omega)]; simp [h]
  refine head_go (Mc.q58_L0.eq_1) ?_
  rw [vtrunc_len (n := 0) rfl,he]
  simp [lenAV,hl,pureQ,Rs.q58]
 | b :: rest,i,a,hd,ha => by
  obtain ⟨hlt,hx,hxd⟩ := drop_cons hd
  have hi4 : i ≤ 4 := by omega
  have hp : 10 ^ i ≤ 10 ^ 4 := Nat.pow_le_pow_right (by omega) hi4
  have hl : ltB (i : Int) (s.length : Int) = true := ltB_iff.2 (by omega)
  have hw : IntKind.i64.wrap ((i : Int) + 1) = ((i + 1 : Nat) : Int) := wrap1 (by unfold big; omega)
  have is : ∀ st h,opV G st h .istr (some [.str s,.int .i64 i]) = some (.int .u8 b.toNat,h) := fun st h => op_istr hx
  have hb := b.toNat_lt
  refine head_go (Mc.q58_L0.eq_1) ?_
  rw [vtrunc_len (n := 0) rfl]
  by_cases h1 : b.toNat < 48
  ·have q1 : ltB (b.toNat : Int) 48 = true := ltB_iff.2 (by omega)
   have he : okU a (b :: rest) = false := by simp only [okU,Lib.parseUint10]; rw [if_neg (by omega)]
   rw [he]
   simp [lenAV,hl,is,q1,pureQ,Rs.q58]
  ·have q1 : ltB (b.toNat : Int) 48 = false := ltB_not.2 (by omega)
   by_cases h2 : 57 < b.toNat
   ·have q2 : ltB 57 (b.toNat : Int) = true := ltB_iff.2 (by omega)
    have he : okU a (b :: rest) = false := by simp only [okU,Lib.parseUint10]; rw [if_neg (by omega)]
    rw [he]
    simp [lenAV,hl,is,q1,q2,pureQ,Rs.q58]
   ·have q2 : ltB 57 (b.toNat : Int) = false := ltB_not.2 (by omega)
    have he : okU a (b :: rest) = okU (a * 10 + (b.toNat - 48)) rest := by simp only [okU,Lib.parseUint10]; rw [if_pos ⟨by omega,by omega⟩,if_neg (by omega),if_neg (by omega)]
    have ha2 : a * 10 + (b.toNat - 48) < 10 ^ (i + 1) := by rw [Nat.pow_succ]; omega
    have ih := size46_L0 G s h5 rest (i + 1) (a * 10 + (b.toNat - 48)) hxd ha2
    have w1 : IntKind.u8.wrap ((b.toNat : Int) - 48) = (b.toNat : Int) - 48 := u8_in _ ⟨by omega,by omega⟩
    have w2 : IntKind.i64.wrap ((b.toNat : Int) - 48) = (b.toNat : Int) - 48 := i64_in _ ⟨by omega,by omega⟩
    have w3 : IntKind.i64.wrap (10 * (a : Int)) = 10 * (a : Int) := i64_in _ ⟨by omega,by omega⟩
    have w4 : IntKind.i64.wrap (10 * (a : Int) + ((b.toNat : Int) - 48)) = ((a * 10 + (b.toNat - 48) : Nat) : Int) := by rw [i64_in _ ⟨by omega,by omega⟩]; omega
    have m1 : binAV .mul (.int .i64 10) (.int .i64 (a : Int)) = some (.int .i64 (10 * (a : Int))) := by simp [binAV,intBin,w3]
    rw [he]
    generalize hN : a * 10 + (b.toNat - 48) = N at ih w4 ⊢
    simp [lenAV,hl,is,q1,q2,w1,w2,w4,m1,hw]
    refine head_of ?_
    simpa [vtrunc_len (n := 0) (show ([] : Heap).length = 0 from rfl)] using ih
theorem size46_ok {G : Gam} : ∀ args r,F_size46 args = some r → wpM G Mc.q58 (pureQ Rs.q58 r) [] (frInit Ks.q58 args) [] := by
 intro args r hF
 unfold F_size46 at hF
 split at hF
 ·rename_i s
  split at hF
  ·rename_i hb
   injection hF with hF; subst hF
   rw [wpM_go]
   match s,hb with
   | [],_ => simp [Mc.q58,Ks.q58,frInit,lenAV,sizeR,pureQ,Rs.q58,ltB]
   | c :: r,hb =>
    have l1 : ltB ((c :: r).length : Int) 1 = false := ltB_not.2 (by simp; omega)
    by_cases h5 : 5 < (c :: r).length
    ·have q : ltB 5 ((c :: r).length : Int) = true := ltB_iff.2 (by omega)
     have he : sizeR (c :: r) = false := by simp only [sizeR]; rw [decide_eq_false (by omega : ¬ (c :: r).length ≤ 5)]; simp
     rw [he]
     simp [-List.length_cons,Mc.q58,Ks.q58,frInit,lenAV,l1,q,pureQ,Rs.q58]
    ·have q : ltB 5 ((c :: r).length : Int) = false := ltB_not.2 (by omega)
     have ih := size46_L0 G (c :: r) (by omega) (c :: r) 0 0 rfl (by simp)
     by_cases h0 : c = 48
     ·subst h0
      by_cases hr : r = []
      ·subst hr
       have he : sizeR [48] = okU 0 [48] := by rfl
       rw [he]
       simp [Mc.q58,Ks.q58,frInit,lenAV,ltB,eqB]
       simpa using ih
      ·have g : ltB 1 (((48 : UInt8) :: r).length : Int) = true := ltB_iff.2 (by have := List.length_pos_iff.2 hr; simp; omega)
       have he : sizeR (48 :: r) = false := by
        have := List.length_pos_iff.2 hr
        simp [sizeR,this]
       rw [he]
       simp [-List.length_cons,Mc.q58,Ks.q58,frInit,lenAV,l1,q,g,eqB,pureQ,Rs.q58]
     ·have q0 : eqB (c.toNat : Int) 48 = false := eqB_not.2 fun e => h0 (UInt8.toNat_inj.1 (by simp; omega))
      have he : sizeR (c :: r) = okU 0 (c :: r) := by
       have hc : (c == 48) = false := by simp [h0]
       simp only [sizeR,okU]
       rw [decide_eq_true (by omega : (c :: r).length ≤ 5)]
       simp [hc]
       rfl
      rw [he]
      simp [-List.length_cons,Mc.q58,Ks.q58,frInit,lenAV,l1,q,q0]
      simpa using ih
  ·cases hF
 ·cases hF
end Go.Proofs.YtaadifodgahnjaaGreatDoor
namespace Go.Proofs.YtaadifodgahnjaaGreatDoor
open Go.RowKit Go.IntWalk
theorem atoi_in {s : Bs} {v : Int} (h : Lib.atoiAll s = .ok v) : -9223372036854775808 ≤ v ∧ v ≤ 9223372036854775807 := by
 unfold Lib.atoiAll at h
 split at h
 ·cases h
 ·simp only at h
  split at h
  ·cases h
  ·cases h
  ·split at h
   ·cases h
   ·split at h
    ·cases h
    ·injection h with h
     split at h <;> omega
def fileOkP (w : List Bs) : Bool := match w with
 | [_,p,s,d] => pathOK p && sizeP s && decide ((dparseE d).2 = 0)
 | _ => false
def F_mfile : List AV → Option AV
 | [.sl rows] => match decStrs rows with
  | some ws => if ws.length ≤ 1000000 ∧ (ws.all fun w => decide (w.length ≤ 1000000)) = true then some (.bool (fileOkP ws)) else none
  | none => none
 | _ => none
theorem mfile_ok {G : Gam} {T : TypeId} (hP : G Fn.tree_Path = some (.pure F_Path)) (hA : G Fn.q72 = some (.pure (F_Atoi T))) (hD : G Fn.q69 = some (.pure F_dParse)) (hI : G Fn.q70 = some (.pure F_Itoa)) : ∀ args r,F_mfile args = some r → wpM G Mc.bundle_file (pureQ Rs.bundle_file r) [] (frInit Ks.bundle_file args) [] := by
 intro args r hF
 unfold F_mfile at hF
 split at hF
 ·rename_i rows
  split at hF
  ·rename_i ws hd
   have := decStrs_of hd; subst this
   split at hF
   ·rename_i hc
    obtain ⟨hl,hall⟩ := hc
    injection hF with hF; subst hF
    rw [wpM_go]
    by_cases h4 : ws.length = 4
    ·match ws,h4 with
     | [k,p,s,d],_ =>
      have hall' := List.all_eq_true.1 hall
      have hp : p.length ≤ 1000000 := by simpa using hall' p (by simp)
      have hs : s.length ≤ 1000000 := by simpa using hall' s (by simp)
      have hdl : d.length ≤ 1000000 := by simpa using hall' d (by simp)
      have c1 : ∀ st h,opV G st h (.call Fn.tree_Path) (some [.str p]) = some (.int .i64 (if pathOK p then 0 else 2),h) := fun st h => op_call hP (us := [.str p]) rfl (F1_use (A := eStr) (R := eInt) (x := p) (r := if pathOK p then 0 else 2) (by rw [if_pos (by omega)])) (.inl rfl)
      have c2 : ∀ st h,opV G st h (.call Fn.q72) (some [.str s]) = some (atoiAV T s,h) := fun st h => op_call hA (us := [.str s]) rfl (by simp only [F_Atoi]; rw [if_pos (by omega)]) (.inr rfl)
      have c3 : ∀ st h,opV G st h (.call Fn.q69) (some [.str d]) = some (.tup [.str (dparseE d).1,.int .i64 (dparseE d).2],h) := fun st h => op_call hD (us := [.str d]) rfl (by simp only [F_dParse]; rw [if_pos (by unfold big; omega)]) (.inl rfl)
      have n1 : ∀ st h,opV G st h (.isnili false) (some [.nili]) = some (.bool true,h) := fun st h => by rw [opV_quiet rfl]; rfl
      have n2 : ∀ st h T,opV G st h (.isnili false) (some [.iface T .junk]) = some (.bool false,h) := fun st h T => by rw [opV_quiet rfl]; rfl
      have i1 : ∀ h,iadrAV 1 h (.sl (encStrs [k,p,s,d])) (.int .i64 1) = some (.fptr [.str p] 0) := fun h => rfl
      have i2 : ∀ h,iadrAV 1 h (.sl (encStrs [k,p,s,d])) (.int .i64 2) = some (.fptr [.str s] 0) := fun h => rfl
      have i3 : ∀ h,iadrAV 1 h (.sl (encStrs [k,p,s,d])) (.int .i64 3) = some (.fptr [.str d] 0) := fun h => rfl
      have hlen : (encStrs [k,p,s,d]).length = 4 := rfl
      cases hpo : pathOK p with
      | false =>
       rw [hpo] at c1
       simp [Mc.bundle_file,Ks.bundle_file,frInit,hlen,i1,c1,eqB,fileOkP,hpo,pureQ,Rs.bundle_file]
      | true =>
       rw [hpo] at c1
       rcases numEnd_cases (Lib.atoiAll s) with ⟨v,hat⟩ | hat | hat
       ·have hv := atoi_in hat
        have e1 : atoiAV T s = .tup [.int .i64 v,.nili] := by unfold atoiAV; rw [hat]
        rw [e1] at c2
        have c4 : ∀ st h,opV G st h (.call Fn.q70) (some [.int .i64 v]) = some (.str (Lib.itoa v),h) := fun st h => op_call hI (us := [.int .i64 v]) rfl (by simp [F_Itoa,hv.1,hv.2]) (.inl rfl)
        have en : fileOkP [k,p,s,d] = ((Lib.itoa v == s) && (!ltB v 0) && (!ltB 65536 v) && eqB (dparseE d).2 0) := by
         have e2 : decide (Lib.itoa v = s) = (Lib.itoa v == s) := by by_cases h : Lib.itoa v = s <;> simp [h]
         have e3 : decide (0 ≤ v) = !ltB v 0 := by by_cases h : 0 ≤ v <;> simp [ltB,h] <;> omega
         have e4 : decide (v ≤ 65536) = !ltB 65536 v := by by_cases h : v ≤ 65536 <;> simp [ltB,h] <;> omega
         simp only [fileOkP,hpo,sizeP,hat,e2,e3,e4,eqB,Bool.true_and]
        rw [en]
        cases ha : (Lib.itoa v == s) <;> cases hb : ltB v 0 <;> cases hc : ltB 65536 v <;> cases hd : eqB (dparseE d).2 0 <;>
         simp [Mc.bundle_file,Ks.bundle_file,frInit,hlen,i1,i2,i3,c1,c2,c3,c4,n1,eqB_self,pureQ,Rs.bundle_file,ha,hb,hc,hd]
       ·have e1 : atoiAV T s = .tup [.int .i64 (Lib.atoiSat s),.iface T .junk] := by unfold atoiAV; rw [hat]
        rw [e1] at c2
        have en : fileOkP [k,p,s,d] = false := by simp [fileOkP,sizeP,hat]
        rw [en]
        simp [Mc.bundle_file,Ks.bundle_file,frInit,hlen,i1,i2,i3,c1,c2,c3,n2,pureQ,Rs.bundle_file]
       ·have e1 : atoiAV T s = .tup [.int .i64 0,.iface T .junk] := by unfold atoiAV; rw [hat]; rfl
        rw [e1] at c2
        have e0 : sizeP s = false := by unfold sizeP; rw [hat]; rfl
        have en : fileOkP [k,p,s,d] = false := by simp [fileOkP,e0]
        rw [en]
        simp [Mc.bundle_file,Ks.bundle_file,frInit,hlen,i1,i2,i3,c1,c2,c3,n2,pureQ,Rs.bundle_file]
    ·have q : eqB (ws.length : Int) 4 = false := eqB_not.2 (by omega)
     have en : fileOkP ws = false := by
      unfold fileOkP
      split
      ·simp at h4
      ·rfl
     rw [en]
     simp [-List.length_map,Mc.bundle_file,Ks.bundle_file,frInit,q,pureQ,Rs.bundle_file]
   ·cases hF
  ·cases hF
 ·cases hF
end Go.Proofs.YtaadifodgahnjaaGreatDoor
namespace Go.Proofs.YtaadifodgahnjaaGreatDoor
open Go.RowKit Go.IntWalk
def fileOkR (w : List Bs) : Bool := match w with
 | [_,p,s,d] => pathOK p && sizeR s && decide ((dparseE d).2 = 0)
 | _ => false
theorem fileOk_eq (w : List Bs) : fileOkP w = fileOkR w := by
 unfold fileOkP fileOkR
 split
 ·rw [size_eq]
 ·first | rfl | (rename_i hne; split <;> first | rfl | exact (hne _ _ _ _ rfl).elim)
def resRead (o : Option (Bs × Bs)) : AV := match o with
 | some (a,b) => .tup [.str a,.str b,.int .i64 0]
 | none => .tup [.str [],.str [],.int .i64 17]
theorem leqS (p l : Bs) : (Op.bytesLess p l || p == l) = !Op.bytesLess l p := by
 rw [Go.Proofs.bytesLess_eq,Go.Proofs.bytesLess_eq]
 by_cases h : l < p
 ·have h1 : ¬ p < l := fun h2 => List.lt_irrefl p (List.lt_trans h2 h)
  have h2 : ¬ p = l := fun e => by subst e; exact List.lt_irrefl p h
  simp [h,h1,h2]
 ·rcases List.le_iff_lt_or_eq.1 (List.not_lt.1 h) with h1 | h1
  ·simp [h,h1]
  ·subst h1; simp [h]
theorem eqB_20 : eqB 2 0 = false := rfl
theorem eqB_170 : eqB 17 0 = false := rfl
def tailRd : MC := .seq (.seq (.reg [
  ⟨none,some 144,false,.mv,[.t 9]⟩,
  ⟨none,some 145,false,.bin .gtr,[.t 144,.c (.int .i64 64)]⟩,
  ⟨none,some 146,false,.mv,[.t 145]⟩,
  ⟨some (146,false),some 147,false,.mv,[.t 10]⟩,
  ⟨some (146,false),some 148,false,.bin .gtr,[.t 147,.c (.int .i64 64)]⟩,
  ⟨none,some 149,false,.pick,[.t 146,.c (.bool true),.t 148]⟩])
 (.ite (.t 149)
  (.seq (.reg [
   ⟨none,some 2,true,.mv,[.c (.str [])]⟩,
   ⟨none,some 3,true,.mv,[.c (.str [])]⟩,
   ⟨none,some 4,true,.mv,[.c (.int .i64 17)]⟩])
  .ret)
  .skip))
 (.seq (.rgd [
  ⟨none,some 150,false,.mv,[.t 5]⟩,
  ⟨none,some 151,false,.iadr 1,[.t 150,.c (.int .i64 0)]⟩,
  ⟨none,some 152,false,.ld 1 false,[.t 151]⟩,
  ⟨none,some 153,false,.iadr 1,[.t 152,.c (.int .i64 1)]⟩,
  ⟨none,some 154,false,.ld 1 false,[.t 153]⟩,
  ⟨none,some 155,false,.mv,[.t 5]⟩,
  ⟨none,some 156,false,.iadr 1,[.t 155,.c (.int .i64 1)]⟩,
  ⟨none,some 157,false,.ld 1 false,[.t 156]⟩,
  ⟨none,some 158,false,.iadr 1,[.t 157,.c (.int .i64 1)]⟩,
  ⟨none,some 159,false,.ld 1 false,[.t 158]⟩,
  ⟨none,some 2,true,.mv,[.t 154]⟩,
  ⟨none,some 3,true,.mv,[.t 159]⟩,
  ⟨none,some 4,true,.mv,[.c (.int .i64 0)]⟩])
 .ret)
theorem rowW_at {ws : List (List Bs)} {i : Nat} {w : List Bs} (hw : ws[i]? = some w) (h : Heap) : iadrAV 1 h (.sl (ws.map rowW)) (.int .i64 i) = some (.fptr [.sl (w.map rStr.enc)] 0) := iadr_sl (row := [.sl (w.map rStr.enc)]) (by simp [hw,rowW]) rfl
theorem read46_L0 (G : Gam) (hP : G Fn.q57 = some (.pure F_Path)) (hZ : G Fn.q58 = some (.pure F_size46)) (hD : G Fn.q46 = some (.pure F_dParse)) (s : Bs) (k0 k1 o hx : Bs) (r0 : List (List Bs))
  (hlen : r0.length ≤ 1000000) (hall : ∀ w ∈ r0,∀ x ∈ w,x.length ≤ 1000000) :
  ∀ (rest : List (List Bs)) (i np ns : Nat) (last : Bs),([k0,o] :: [k1,hx] :: r0).drop i = rest → 2 ≤ i → np + ns ≤ i →
  headM G [13,15] Mc.q56_L0 0 [.blk 0,.seq tailRd] (pureQ Rs.q56 (resRead (if scanR fileOkR np ns last rest then some (o,hx) else none)))
   [(0,.str s),(2,.str []),(3,.str []),(4,.int .i64 0),(5,.sl (([k0,o] :: [k1,hx] :: r0).map rowW)),(6,.bool true),(8,.int .i64 0),(9,.int .i64 np),(10,.int .i64 ns),(11,.str last),(12,.int .i64 i),(13,.junk),(15,.junk)] []
 | [],i,np,ns,last,hd,hi,hnn => by
  have hi2 := drop_nil hd
  have hl : ltB (i : Int) ((([k0,o] :: [k1,hx] :: r0).map rowW).length : Int) = false := ltB_not.2 (by simp at hi2 ⊢; omega)
  have a0 : ∀ h,iadrAV 1 h (.sl (([k0,o] :: [k1,hx] :: r0).map rowW)) (.int .i64 0) = some (.fptr [.sl ([k0,o].map rStr.enc)] 0) := fun h => rowW_at (i := 0) rfl h
  have a1 : ∀ h,iadrAV 1 h (.sl (([k0,o] :: [k1,hx] :: r0).map rowW)) (.int .i64 1) = some (.fptr [.sl ([k1,hx].map rStr.enc)] 0) := fun h => rowW_at (i := 1) rfl h
  have b0 : ∀ h (x y : Bs),iadrAV 1 h (.sl [[.str x],[.str y]]) (.int .i64 1) = some (.fptr [.str y] 0) := fun h x y => rfl
  refine head_go (Mc.q56_L0.eq_1) ?_
  rw [vtrunc_len (n := 0) rfl]
  generalize hL : ([k0,o] :: [k1,hx] :: r0).map rowW = L at hl a0 a1 ⊢
  by_cases q1 : 64 < np
  ·have g1 : ltB 64 (np : Int) = true := ltB_iff.2 (by omega)
   have e : scanR fileOkR np ns last [] = false := by simp [scanR,q1]
   rw [e]
   simp [hl,g1,tailRd,resRead,pureQ,Rs.q56]
  ·have g1 : ltB 64 (np : Int) = false := ltB_not.2 (by omega)
   by_cases q2 : 64 < ns
   ·have g2 : ltB 64 (ns : Int) = true := ltB_iff.2 (by omega)
    have e : scanR fileOkR np ns last [] = false := by simp [scanR,q2]
    rw [e]
    simp [hl,g1,g2,tailRd,resRead,pureQ,Rs.q56]
   ·have g2 : ltB 64 (ns : Int) = false := ltB_not.2 (by omega)
    have e : scanR fileOkR np ns last [] = true := by simp [scanR,q1,q2]
    rw [e]
    simp [hl,g1,g2,tailRd,a0,a1,b0,resRead,pureQ,Rs.q56]
 | w :: rest,i,np,ns,last,hd,hi,hnn => by
  obtain ⟨hlt,hw,hwd⟩ := drop_cons hd
  have hlt' : i < r0.length + 2 := by simpa using hlt
  have hl : ltB (i : Int) ((([k0,o] :: [k1,hx] :: r0).map rowW).length : Int) = true := ltB_iff.2 (by simp; omega)
  have hin : w ∈ r0 := by
   obtain ⟨j,rfl⟩ : ∃ j,i = j + 2 := ⟨i - 2,by omega⟩
   have : r0[j]? = some w := by simpa using hw
   exact List.mem_of_getElem? this
  have hwx := hall w hin
  have a0 : ∀ h,iadrAV 1 h (.sl (([k0,o] :: [k1,hx] :: r0).map rowW)) (.int .i64 i) = some (.fptr [.sl (w.map rStr.enc)] 0) := fun h => rowW_at hw h
  have wi : IntKind.i64.wrap ((i : Int) + 1) = ((i + 1 : Nat) : Int) := wrap1 (by unfold big; omega)
  have wn : IntKind.i64.wrap ((np : Int) + 1) = ((np + 1 : Nat) : Int) := wrap1 (by unfold big; omega)
  have ws : IntKind.i64.wrap ((ns : Int) + 1) = ((ns + 1 : Nat) : Int) := wrap1 (by unfold big; omega)
  refine head_go (Mc.q56_L0.eq_1) ?_
  rw [vtrunc_len (n := 0) rfl]
  have ih := fun np' ns' last' (h : np' + ns' ≤ i + 1) => read46_L0 G hP hZ hD s k0 k1 o hx r0 hlen hall rest (i + 1) np' ns' last' hwd (by omega) h
  generalize hL : ([k0,o] :: [k1,hx] :: r0).map rowW = L at hl a0 ih ⊢
  by_cases h4 : w.length = 4
  ·match w,h4 with
   | [k,p,z,d],_ =>
    have hp := hwx p (by simp)
    have hz := hwx z (by simp)
    have hdd := hwx d (by simp)
    have c1 : ∀ st h,opV G st h (.call Fn.q57) (some [.str p]) = some (.int .i64 (if pathOK p then 0 else 2),h) := fun st h => op_call hP (us := [.str p]) rfl (F1_use (A := eStr) (R := eInt) (x := p) (r := if pathOK p then 0 else 2) (by rw [if_pos (by omega)])) (.inl rfl)
    have c2 : ∀ st h,opV G st h (.call Fn.q58) (some [.str z]) = some (.bool (sizeR z),h) := fun st h => op_call hZ (us := [.str z]) rfl (by simp only [F_size46]; rw [if_pos hz]) (.inl rfl)
    have c3 : ∀ st h,opV G st h (.call Fn.q46) (some [.str d]) = some (.tup [.str (dparseE d).1,.int .i64 (dparseE d).2],h) := fun st h => op_call hD (us := [.str d]) rfl (by simp only [F_dParse]; rw [if_pos (by unfold big; omega)]) (.inl rfl)
    have b0 : ∀ h,iadrAV 1 h (.sl ([k,p,z,d].map rStr.enc)) (.int .i64 0) = some (.fptr [.str k] 0) := fun h => rfl
    have b1 : ∀ h,iadrAV 1 h (.sl ([k,p,z,d].map rStr.enc)) (.int .i64 1) = some (.fptr [.str p] 0) := fun h => rfl
    have b2 : ∀ h,iadrAV 1 h (.sl ([k,p,z,d].map rStr.enc)) (.int .i64 2) = some (.fptr [.str z] 0) := fun h => rfl
    have b3 : ∀ h,iadrAV 1 h (.sl ([k,p,z,d].map rStr.enc)) (.int .i64 3) = some (.fptr [.str d] 0) := fun h => rfl
    have hl4 : (([k,p,z,d] : List Bs).map rStr.enc).length = 4 := rfl
    generalize hW : ([k,p,z,d] : List Bs).map rStr.enc = WR at a0 b0 b1 b2 b3 hl4
    have fail : ∀ b,fileOkR [k,p,z,d] = b → b = false → scanR fileOkR np ns last ([k,p,z,d] :: rest) = false := fun b h1 h2 => by simp only [scanR]; rw [h1,h2]; rfl
    cases hpo : pathOK p with
    | false =>
     rw [hpo] at c1
     rw [fail false (by simp [fileOkR,hpo]) rfl]
     simp [hl,a0,b1,hl4,c1,eqB,resRead,pureQ,Rs.q56]
    | true =>
     rw [hpo] at c1
     cases hsz : sizeR z with
     | false =>
      rw [hsz] at c2
      rw [fail false (by simp [fileOkR,hpo,hsz]) rfl]
      simp [hl,a0,b1,b2,hl4,c1,c2,eqB,resRead,pureQ,Rs.q56]
     | true =>
      rw [hsz] at c2
      by_cases hde : (dparseE d).2 = 0
      ·have hok : fileOkR [k,p,z,d] = true := by simp [fileOkR,hpo,hsz,hde]
       rw [hde] at c3
       have hsc : scanR fileOkR np ns last ([k,p,z,d] :: rest) = (if k = wPaper ∧ ns = 0 then (if Op.bytesLess last p = false then false else scanR fileOkR (np + 1) ns p rest) else if k = wSource then (if Op.bytesLess (if ns = 0 then [] else last) p = false then false else scanR fileOkR np (ns + 1) p rest) else false) := by
        simp only [scanR]; rw [hok]; simp
       by_cases k1 : k = wPaper
       ·subst k1
        have q1 : ((wPaper : Bs) == [112,97,112,101,114]) = true := by decide
        have q2 : ((wPaper : Bs) == [115,111,117,114,99,101]) = false := by decide
        have q3 : ¬ wPaper = wSource := by decide
        by_cases n0 : ns = 0
        ·subst n0
         rw [if_pos (show wPaper = wPaper ∧ (0 : Nat) = 0 from ⟨rfl,rfl⟩)] at hsc
         cases hbl : Op.bytesLess last p with
         | false =>
          rw [if_pos hbl] at hsc
          rw [hsc]
          simp [hl,a0,b0,b1,b2,b3,hl4,c1,c2,c3,q1,hbl,wn,leqS,resRead,pureQ,Rs.q56]
         | true =>
          rw [if_neg (by rw [hbl]; simp)] at hsc
          rw [hsc]
          have ih2 := ih (np + 1) 0 p (by omega)
          simp [hl,a0,b0,b1,b2,b3,hl4,c1,c2,c3,q1,hbl,wn,wi,leqS]
          refine head_of ?_
          simpa [junkAll,trunc] using ih2
        ·have e1 : eqB (ns : Int) 0 = false := eqB_not.2 (by omega)
         rw [if_neg (show ¬ (wPaper = wPaper ∧ ns = 0) from fun h => n0 h.2),if_neg q3] at hsc
         rw [hsc]
         simp [hl,a0,b0,b1,b2,b3,hl4,c1,c2,c3,q1,q2,e1,eqB_170,resRead,pureQ,Rs.q56]
       ·have q1 : (k == ([112,97,112,101,114] : Bs)) = false := beq_eq_false_iff_ne.2 k1
        rw [if_neg (show ¬ (k = wPaper ∧ ns = 0) from fun h => k1 h.1)] at hsc
        by_cases k2 : k = wSource
        ·subst k2
         have q2 : ((wSource : Bs) == [115,111,117,114,99,101]) = true := by decide
         rw [if_pos (show wSource = wSource from rfl)] at hsc
         by_cases n0 : ns = 0
         ·subst n0
          rw [if_pos (show (0 : Nat) = 0 from rfl)] at hsc
          have lq : (Op.bytesLess p [] || p == []) = !Op.bytesLess [] p := leqS p []
          have w1 : IntKind.i64.wrap 1 = 1 := rfl
          have lq2 : (Op.bytesLess p [] || p.isEmpty) = !Op.bytesLess [] p := by rw [← lq]; cases p <;> rfl
          cases hbl : Op.bytesLess [] p with
          | false =>
           rw [if_pos hbl] at hsc
           rw [hsc]
           simp [hl,a0,b0,b1,b2,b3,hl4,c1,c2,c3,q1,q2,hbl,lq2,resRead,pureQ,Rs.q56]
          | true =>
           rw [if_neg (by rw [hbl]; simp)] at hsc
           rw [hsc]
           have ih2 := ih np (0 + 1) p (by omega)
           simp [hl,a0,b0,b1,b2,b3,hl4,c1,c2,c3,q1,q2,hbl,w1,wi,lq2]
           refine head_of ?_
           simpa [junkAll,trunc] using ih2
         ·have e1 : eqB (ns : Int) 0 = false := eqB_not.2 (by omega)
          rw [if_neg n0] at hsc
          cases hbl : Op.bytesLess last p with
          | false =>
           rw [if_pos hbl] at hsc
           rw [hsc]
           simp [hl,a0,b0,b1,b2,b3,hl4,c1,c2,c3,q1,q2,e1,hbl,ws,leqS,resRead,pureQ,Rs.q56]
          | true =>
           rw [if_neg (by rw [hbl]; simp)] at hsc
           rw [hsc]
           have ih2 := ih np (ns + 1) p (by omega)
           simp [hl,a0,b0,b1,b2,b3,hl4,c1,c2,c3,q1,q2,e1,hbl,ws,wi,leqS]
           refine head_of ?_
           simpa [junkAll,trunc] using ih2
        ·have q2 : (k == ([115,111,117,114,99,101] : Bs)) = false := beq_eq_false_iff_ne.2 k2
         rw [if_neg k2] at hsc
         rw [hsc]
         simp [hl,a0,b0,b1,b2,b3,hl4,c1,c2,c3,q1,q2,eqB_170,resRead,pureQ,Rs.q56]
      ·rw [fail false (by simp [fileOkR,hpo,hsz,hde]) rfl]
       have e0 : eqB (dparseE d).2 0 = false := eqB_not.2 hde
       by_cases k1 : k = wPaper
       ·subst k1
        have q1 : ((wPaper : Bs) == [112,97,112,101,114]) = true := by decide
        have q2 : ((wPaper : Bs) == [115,111,117,114,99,101]) = false := by decide
        by_cases n0 : ns = 0
        ·subst n0
         simp [hl,a0,b0,b1,b2,b3,hl4,c1,c2,c3,q1,e0,wn,resRead,pureQ,Rs.q56]
        ·have e1 : eqB (ns : Int) 0 = false := eqB_not.2 (by omega)
         simp [hl,a0,b0,b1,b2,b3,hl4,c1,c2,c3,q1,q2,e1,eqB_170,resRead,pureQ,Rs.q56]
       ·have q1 : (k == ([112,97,112,101,114] : Bs)) = false := beq_eq_false_iff_ne.2 k1
        by_cases k2 : k = wSource
        ·subst k2
         have q2 : ((wSource : Bs) == [115,111,117,114,99,101]) = true := by decide
         by_cases n0 : ns = 0
         ·subst n0
          simp [hl,a0,b0,b1,b2,b3,hl4,c1,c2,c3,q1,q2,e0,resRead,pureQ,Rs.q56]
         ·have e1 : eqB (ns : Int) 0 = false := eqB_not.2 (by omega)
          simp [hl,a0,b0,b1,b2,b3,hl4,c1,c2,c3,q1,q2,e0,e1,ws,resRead,pureQ,Rs.q56]
        ·have q2 : (k == ([115,111,117,114,99,101] : Bs)) = false := beq_eq_false_iff_ne.2 k2
         simp [hl,a0,b0,b1,b2,b3,hl4,c1,c2,c3,q1,q2,eqB_170,resRead,pureQ,Rs.q56]
  ·have q4 : eqB (w.length : Int) 4 = false := eqB_not.2 (by omega)
   have hfo : fileOkR w = false := by
    unfold fileOkR
    split
    ·simp at h4
    ·rfl
   have hsc : scanR fileOkR np ns last (w :: rest) = false := by simp only [scanR]; rw [hfo]; rfl
   rw [hsc]
   simp [hl,a0,q4,resRead,pureQ,Rs.q56]
theorem wordsL_mem : ∀ {ls : List Bs} {p : List (List Bs) × Bool},wordsL ls = some p → p.1.length ≤ ls.length ∧ ∀ w ∈ p.1,∃ l ∈ ls,w = splitBy 32 l
 | [],p,h => by simp [wordsL] at h
 | [l],p,h => by
  simp only [wordsL] at h; injection h with h; subst h
  exact ⟨by simp,by simp⟩
 | l :: m :: ls,p,h => by
  simp only [wordsL] at h
  split at h
  ·cases h
  ·obtain ⟨q,h1,rfl⟩ := Option.map_eq_some_iff.1 h
   obtain ⟨h2,h3⟩ := wordsL_mem h1
   refine ⟨by simp only [List.length_cons] at h2 ⊢; omega,fun w hw => ?_⟩
   rcases List.mem_cons.1 hw with rfl | hw
   ·exact ⟨l,by simp,rfl⟩
   ·obtain ⟨x,hx,rfl⟩ := h3 w hw
    exact ⟨x,by simp [hx],rfl⟩
theorem words_bound {s : Bs} {l : List (List Bs)} {b : Bool} (hs : s.length ≤ 900000) (h : wordsE s = some (l,b)) : l.length ≤ 1000000 ∧ ∀ w ∈ l,w.length ≤ 1000000 ∧ ∀ x ∈ w,x.length ≤ 900000 := by
 obtain ⟨h1,h2⟩ := wordsL_mem h
 have := splitBy_len 10 s
 refine ⟨by simp only at h1; omega,fun w hw => ?_⟩
 obtain ⟨y,hy,rfl⟩ := h2 w hw
 have h3 := splitBy_mem 10 s y hy
 have h4 := splitBy_len 32 y
 exact ⟨by omega,fun x hx => by have := splitBy_mem 32 y x hx; omega⟩
def wOutput : Bs := [111,117,116,112,117,116]
def wBinary : Bs := [98,105,110,97,114,121]
def headOf : List (List Bs) → Option (Bs × Bs × List (List Bs))
 | [k0,o] :: [k1,hx] :: r => if k0 = wOutput ∧ k1 = wBinary ∧ pathOK o = true ∧ (dparseE hx).2 = 0 then some (o,hx,r) else none
 | _ => none
def readR (s : Bs) : Option (Bs × Bs) := match wordsE s with
 | some (l,true) => (headOf l).bind fun q => if scanR fileOkR 0 0 [] q.2.2 then some (q.1,q.2.1) else none
 | _ => none
def readP (s : Bs) : Option (Bs × Bs) := match rowsE s with
 | some l => (headOf l).bind fun q => if scanP fileOkP ⟨0,0,[],[]⟩ q.2.2 then some (q.1,q.2.1) else none
 | none => none
theorem read_eq (s : Bs) : readP s = readR s := by
 unfold readP readR
 have hw : rowsE s = (match wordsE s with | some (l,true) => some l | _ => none) := words_rows (splitBy 10 s)
 rw [hw]
 have hf : fileOkP = fileOkR := funext fileOk_eq
 cases wordsE s with
 | none => rfl
 | some p =>
  obtain ⟨l,b⟩ := p
  cases b with
  | false => rfl
  | true =>
   simp only [hf]
   congr 1
   funext q
   rw [scan_eq fileOkR q.2.2 ⟨0,0,[],[]⟩ (by simp) (by simp) (by simp)]
   simp
def F_readR : List AV → Option AV
 | [.str s] => if s.length ≤ 900000 then some (resRead (readR s)) else none
 | _ => none
theorem Read46_ok {G : Gam} (hW : G Fn.q45 = some (.pure F_words)) (hP : G Fn.q57 = some (.pure F_Path)) (hZ : G Fn.q58 = some (.pure F_size46)) (hD : G Fn.q46 = some (.pure F_dParse)) : ∀ args r,F_readR args = some r → wpM G Mc.q56 (pureQ Rs.q56 r) [] (frInit Ks.q56 args) [] := by
 intro args r hF
 unfold F_readR at hF
 split at hF
 ·rename_i s
  split at hF
  ·rename_i hb
   injection hF with hF; subst hF
   have c0 : ∀ st h,opV G st h (.call Fn.q45) (some [.str s]) = some (resWords (wordsE s),h) := fun st h => op_call hW (us := [.str s]) rfl (by simp only [F_words]; rw [if_pos (by omega)]) (.inr rfl)
   rw [wpM_go]
   cases hwe : wordsE s with
   | none =>
    rw [hwe] at c0
    simp [Mc.q56,Ks.q56,frInit,c0,resWords,readR,hwe,resRead,pureQ,Rs.q56]
   | some q =>
    obtain ⟨l,b⟩ := q
    obtain ⟨hll,hlw⟩ := words_bound hb hwe
    cases b with
    | false =>
     rw [hwe] at c0
     simp [Mc.q56,Ks.q56,frInit,c0,resWords,readR,hwe,resRead,pureQ,Rs.q56]
    | true =>
     have hre : readR s = (headOf l).bind fun q => if scanR fileOkR 0 0 [] q.2.2 then some (q.1,q.2.1) else none := by unfold readR; rw [hwe]
     rw [hre]
     rw [hwe] at c0
     have fail : headOf l = none → resRead ((headOf l).bind fun q => if scanR fileOkR 0 0 [] q.2.2 then some (q.1,q.2.1) else none) = .tup [.str [],.str [],.int .i64 17] := fun e => by rw [e]; rfl
     match l,hll,hlw with
     | [],_,_ =>
      rw [fail rfl]
      simp [Mc.q56,Ks.q56,frInit,c0,resWords,ltB,pureQ,Rs.q56]
     | [w],_,_ =>
      rw [fail (by unfold headOf; split <;> simp_all)]
      simp [Mc.q56,Ks.q56,frInit,c0,resWords,ltB,pureQ,Rs.q56]
     | w0 :: w1 :: r0,hll,hlw =>
      have h2 : ltB (((w0 :: w1 :: r0).map rowW).length : Int) 2 = false := ltB_not.2 (by simp; omega)
      have a0 : ∀ h,iadrAV 1 h (.sl ((w0 :: w1 :: r0).map rowW)) (.int .i64 0) = some (.fptr [.sl (w0.map rStr.enc)] 0) := fun h => rowW_at (i := 0) rfl h
      have a1 : ∀ h,iadrAV 1 h (.sl ((w0 :: w1 :: r0).map rowW)) (.int .i64 1) = some (.fptr [.sl (w1.map rStr.enc)] 0) := fun h => rowW_at (i := 1) rfl h
      simp only [resWords] at c0
      by_cases l0 : w0.length = 2
      ·match w0,l0 with
       | [k0,o],_ =>
        have ho : o.length ≤ 900000 := (hlw [k0,o] (by simp)).2 o (by simp)
        have b0 : ∀ h,iadrAV 1 h (.sl ([k0,o].map rStr.enc)) (.int .i64 0) = some (.fptr [.str k0] 0) := fun h => rfl
        have b1 : ∀ h,iadrAV 1 h (.sl ([k0,o].map rStr.enc)) (.int .i64 1) = some (.fptr [.str o] 0) := fun h => rfl
        have hl2 : (([k0,o] : List Bs).map rStr.enc).length = 2 := rfl
        have c1 : ∀ st h,opV G st h (.call Fn.q57) (some [.str o]) = some (.int .i64 (if pathOK o then 0 else 2),h) := fun st h => op_call hP (us := [.str o]) rfl (F1_use (A := eStr) (R := eInt) (x := o) (r := if pathOK o then 0 else 2) (by rw [if_pos (by omega)])) (.inl rfl)
        by_cases k0e : k0 = wOutput
        ·have q0 : (k0 == ([111,117,116,112,117,116] : Bs)) = true := beq_iff_eq.2 k0e
         cases hpo : pathOK o with
         | false =>
          rw [hpo] at c1
          rw [fail (by unfold headOf; split <;> simp_all)]
          generalize hL : ([k0,o] :: w1 :: r0).map rowW = L at c0 h2 a0 a1 ⊢
          generalize hW0 : ([k0,o] : List Bs).map rStr.enc = W0 at a0 b0 b1 hl2
          simp [Mc.q56,Ks.q56,frInit,c0,h2,a0,b0,b1,hl2,q0,c1,eqB_20,pureQ,Rs.q56]
         | true =>
          rw [hpo] at c1
          by_cases l1 : w1.length = 2
          ·match w1,l1 with
           | [k1,hx],_ =>
            have hhx : hx.length ≤ 900000 := (hlw [k1,hx] (by simp)).2 hx (by simp)
            have d0 : ∀ h,iadrAV 1 h (.sl ([k1,hx].map rStr.enc)) (.int .i64 0) = some (.fptr [.str k1] 0) := fun h => rfl
            have d1 : ∀ h,iadrAV 1 h (.sl ([k1,hx].map rStr.enc)) (.int .i64 1) = some (.fptr [.str hx] 0) := fun h => rfl
            have hl3 : (([k1,hx] : List Bs).map rStr.enc).length = 2 := rfl
            have c2 : ∀ st h,opV G st h (.call Fn.q46) (some [.str hx]) = some (.tup [.str (dparseE hx).1,.int .i64 (dparseE hx).2],h) := fun st h => op_call hD (us := [.str hx]) rfl (by simp only [F_dParse]; rw [if_pos (by unfold big; omega)]) (.inl rfl)
            by_cases k1e : k1 = wBinary
            ·have q1 : (k1 == ([98,105,110,97,114,121] : Bs)) = true := beq_iff_eq.2 k1e
             by_cases hde : (dparseE hx).2 = 0
             ·have e0 : eqB (dparseE hx).2 0 = true := eqB_iff.2 hde
              have hh : headOf ([k0,o] :: [k1,hx] :: r0) = some (o,hx,r0) := by simp [headOf,k0e,k1e,hpo,hde]
              rw [hh]
              simp only [Option.bind_some]
              have ih := read46_L0 G hP hZ hD s k0 k1 o hx r0 (by simp at hll; omega) (fun w hw x hx' => by have := (hlw w (by simp [hw])).2 x hx'; omega) r0 2 0 0 [] rfl (by omega) (by omega)
              generalize hL : ([k0,o] :: [k1,hx] :: r0).map rowW = L at c0 h2 a0 a1 ih ⊢
              generalize hW0 : ([k0,o] : List Bs).map rStr.enc = W0 at a0 b0 b1 hl2
              generalize hW1 : ([k1,hx] : List Bs).map rStr.enc = W1 at a1 d0 d1 hl3
              rw [hde] at c2
              simp [Mc.q56,Ks.q56,frInit,c0,h2,a0,a1,b0,b1,d0,d1,hl2,hl3,q0,q1,c1,c2]
              simpa [tailRd] using ih
             ·have e0 : eqB (dparseE hx).2 0 = false := eqB_not.2 hde
              rw [fail (by simp [headOf,hde])]
              generalize hL : ([k0,o] :: [k1,hx] :: r0).map rowW = L at c0 h2 a0 a1 ⊢
              generalize hW0 : ([k0,o] : List Bs).map rStr.enc = W0 at a0 b0 b1 hl2
              generalize hW1 : ([k1,hx] : List Bs).map rStr.enc = W1 at a1 d0 d1 hl3
              simp [Mc.q56,Ks.q56,frInit,c0,h2,a0,a1,b0,b1,d0,d1,hl2,hl3,q0,q1,c1,c2,e0,pureQ,Rs.q56]
            ·have q1 : (k1 == ([98,105,110,97,114,121] : Bs)) = false := beq_eq_false_iff_ne.2 k1e
             rw [fail (by simp [headOf,k1e])]
             generalize hL : ([k0,o] :: [k1,hx] :: r0).map rowW = L at c0 h2 a0 a1 ⊢
             generalize hW0 : ([k0,o] : List Bs).map rStr.enc = W0 at a0 b0 b1 hl2
             generalize hW1 : ([k1,hx] : List Bs).map rStr.enc = W1 at a1 d0 d1 hl3
             simp [Mc.q56,Ks.q56,frInit,c0,h2,a0,a1,b0,b1,d0,hl2,hl3,q0,q1,c1,pureQ,Rs.q56]
          ·have q2 : eqB (w1.length : Int) 2 = false := eqB_not.2 (by omega)
           rw [fail (by unfold headOf; split <;> simp_all)]
           generalize hL : ([k0,o] :: w1 :: r0).map rowW = L at c0 h2 a0 a1 ⊢
           generalize hW0 : ([k0,o] : List Bs).map rStr.enc = W0 at a0 b0 b1 hl2
           simp [Mc.q56,Ks.q56,frInit,c0,h2,a0,a1,b0,b1,hl2,q0,q2,c1,pureQ,Rs.q56]
        ·have q0 : (k0 == ([111,117,116,112,117,116] : Bs)) = false := beq_eq_false_iff_ne.2 k0e
         rw [fail (by unfold headOf; split <;> simp_all)]
         generalize hL : ([k0,o] :: w1 :: r0).map rowW = L at c0 h2 a0 a1 ⊢
         generalize hW0 : ([k0,o] : List Bs).map rStr.enc = W0 at a0 b0 b1 hl2
         simp [Mc.q56,Ks.q56,frInit,c0,h2,a0,b0,hl2,q0,pureQ,Rs.q56]
      ·have q2 : eqB (w0.length : Int) 2 = false := eqB_not.2 (by omega)
       rw [fail (by unfold headOf; split <;> simp_all)]
       generalize hL : (w0 :: w1 :: r0).map rowW = L at c0 h2 a0 a1 ⊢
       simp [Mc.q56,Ks.q56,frInit,c0,h2,a0,q2,pureQ,Rs.q56]
  ·cases hF
 ·cases hF
end Go.Proofs.YtaadifodgahnjaaGreatDoor
namespace Go.Proofs.YtaadifodgahnjaaGreatDoor
open Go.RowKit Go.IntWalk
theorem slcr_lo {G : Gam} {s : Bool} {h : Heap} {w a : Nat} {rows : List (List AV)} {k : IntKind} (h1 : a ≤ rows.length) (h2 : sizesOk w rows = true) : opV G s h (.slc (some w) true false false) (some [.sl rows,.int k a]) = some (.sl (rows.drop a),h) := by
 rw [opV_quiet rfl]
 have h1' : (a : Int) ≤ rows.length := by omega
 simp [evalPure,slcArgs,slc1,slcAV,slcRows,h1,h2]
theorem rowsL_mem : ∀ {ls : List Bs} {l : List (List Bs)},rowsL ls = some l → l.length ≤ ls.length ∧ ∀ w ∈ l,∃ y ∈ ls,w = splitBy 32 y
 | [],l,h => by simp [rowsL] at h
 | [x],l,h => by
  simp only [rowsL] at h
  split at h
  ·injection h with h; subst h; exact ⟨by simp,by simp⟩
  ·cases h
 | x :: m :: ls,l,h => by
  simp only [rowsL] at h
  split at h
  ·cases h
  ·obtain ⟨q,h1,rfl⟩ := Option.map_eq_some_iff.1 h
   obtain ⟨h2,h3⟩ := rowsL_mem h1
   refine ⟨by simp only [List.length_cons] at h2 ⊢; omega,fun w hw => ?_⟩
   rcases List.mem_cons.1 hw with rfl | hw
   ·exact ⟨x,by simp,rfl⟩
   ·obtain ⟨y,hy,rfl⟩ := h3 w hw
    exact ⟨y,by simp [hy],rfl⟩
theorem rows_bound {s : Bs} {l : List (List Bs)} (hs : s.length ≤ 900000) (h : rowsE s = some l) : l.length ≤ 1000000 ∧ ∀ w ∈ l,w ≠ [] ∧ w.length ≤ 1000000 ∧ ∀ x ∈ w,x.length ≤ 900000 := by
 obtain ⟨h1,h2⟩ := rowsL_mem h
 have := splitBy_len 10 s
 refine ⟨by omega,fun w hw => ?_⟩
 obtain ⟨y,hy,rfl⟩ := h2 w hw
 have h3 := splitBy_mem 10 s y hy
 have h4 := splitBy_len 32 y
 exact ⟨splitBy_ne 32 y,by omega,fun x hx => by have := splitBy_mem 32 y x hx; omega⟩
theorem fileOkP_four {k : Bs} {tl : List Bs} (h : fileOkP (k :: tl) = true) : ∃ p z d,tl = [p,z,d] := by
 match tl,h with
 | [p,z,d],_ => exact ⟨p,z,d,rfl⟩
 | [],h => simp [fileOkP] at h
 | [_],h => simp [fileOkP] at h
 | [_,_],h => simp [fileOkP] at h
 | _ :: _ :: _ :: _ :: _,h => simp [fileOkP] at h
theorem scanP_p {ok : List Bs → Bool} {sd : Stand} {tl : List Bs} {rest : List (List Bs)} (n0 : sd.ns = 0) : scanP ok sd ((wPaper :: tl) :: rest) = (if ok (wPaper :: tl) = false then false else if Op.bytesLess sd.lp (tl.headD []) = false then false else if sd.np = 64 then false else scanP ok { sd with np := sd.np + 1,lp := tl.headD [] } rest) := by
 rw [scanP,if_pos ⟨rfl,n0⟩]
 cases tl <;> rfl
theorem scanP_s {ok : List Bs → Bool} {sd : Stand} {tl : List Bs} {rest : List (List Bs)} : scanP ok sd ((wSource :: tl) :: rest) = (if ok (wSource :: tl) = false then false else if Op.bytesLess sd.ls (tl.headD []) = false then false else if sd.ns = 64 then false else scanP ok { sd with ns := sd.ns + 1,ls := tl.headD [] } rest) := by
 rw [scanP,if_neg (show ¬ ((wSource :: tl).headD [] = wPaper ∧ sd.ns = 0) from fun h => absurd (show wSource = wPaper from h.1) (by decide)),if_pos (show (wSource :: tl).headD [] = wSource from rfl)]
 cases tl <;> rfl
theorem scanP_n {ok : List Bs → Bool} {sd : Stand} {k : Bs} {tl : List Bs} {rest : List (List Bs)} (h1 : ¬ (k = wPaper ∧ sd.ns = 0)) (h2 : k ≠ wSource) : scanP ok sd ((k :: tl) :: rest) = false := by
 rw [scanP,if_neg (show ¬ ((k :: tl).headD [] = wPaper ∧ sd.ns = 0) from h1),if_neg (show ¬ (k :: tl).headD [] = wSource from h2)]
def tailP : MC := .seq (.reg [
  ⟨none,some 144,false,.mv,[.t 7]⟩,
  ⟨none,some 145,false,.mv,[.t 8]⟩,
  ⟨none,some 2,true,.mv,[.t 144]⟩,
  ⟨none,some 3,true,.mv,[.t 145]⟩,
  ⟨none,some 4,true,.mv,[.c (.int .i64 0)]⟩])
 .ret
structure MapsP (sd : Stand) (ml : List (Bs × Bs)) (mn : List (Bs × Nat)) : Prop where
 lp : (lookM wPaper ml).getD [] = sd.lp
 ls : (lookM wSource ml).getD [] = sd.ls
 np : (lookM wPaper mn).getD 0 = sd.np
 ns : (lookM wSource mn).getD 0 = sd.ns
section
variable {G : Gam} {ml : List (Bs × Bs)} {mn : List (Bs × Nat)}
theorem lkL {key x : Bs} (h : (lookM key ml).getD [] = x) (b : Blk) : ∀ st,opV G st [.map (encM eStr ml),b] (.look .s false (.str [])) (some [.map 0,.str key]) = some (.str x,[.map (encM eStr ml),b]) := fun st => by
 rw [op_look (V := eStr) (m := ml) rfl,← h]; cases lookM key ml <;> rfl
theorem lkN {key : Bs} {n : Nat} (h : (lookM key mn).getD 0 = n) (a : Blk) : ∀ st,opV G st [a,.map (encM eNat mn)] (.look .s false (.int .i64 0)) (some [.map 1,.str key]) = some (.int .i64 n,[a,.map (encM eNat mn)]) := fun st => by
 rw [op_look (V := eNat) (m := mn) rfl,← h]; cases lookM key mn <;> rfl
theorem upL (key p : Bs) (b : Blk) : ∀ st,opV G st [.map (encM eStr ml),b] (.mapup .s) (some [.map 0,.str key,.str p]) = some (.junk,[.map (encM eStr (putM key p ml)),b]) := fun st => by
 exact op_mapup (V := eStr) (m := ml) (v := p) (h := [.map (encM eStr ml),b]) rfl rfl rfl rfl
theorem upN (key : Bs) (n : Nat) (a : Blk) : ∀ st,opV G st [a,.map (encM eNat mn)] (.mapup .s) (some [.map 1,.str key,.int .i64 ((n : Int) + 1)]) = some (.junk,[a,.map (encM eNat (putM key (n + 1) mn))]) := fun st => by
 exact op_mapup (V := eNat) (m := mn) (v := n + 1) (h := [a,.map (encM eNat mn)]) rfl rfl rfl rfl
end
theorem bread_L0 (G : Gam) (hF : G Fn.bundle_file = some (.pure F_mfile)) (s o hx : Bs) (A : List (List AV)) (r : List (List Bs))
  (hlen : r.length ≤ 1000000) (hall : ∀ w ∈ r,w ≠ [] ∧ w.length ≤ 1000000 ∧ ∀ x ∈ w,x.length ≤ 1000000) :
  ∀ (rest : List (List Bs)) (i : Nat) (sd : Stand) (ml : List (Bs × Bs)) (mn : List (Bs × Nat)),r.drop i = rest → MapsP sd ml mn → sd.np ≤ 64 → sd.ns ≤ 64 →
  headM G [14,15] Mc.bundle_Read_L0 2 [.blk 0,.seq tailP] (pureQ Rs.bundle_Read (resRead (if scanP fileOkP sd rest then some (o,hx) else none)))
   [(0,.str s),(2,.str []),(3,.str []),(4,.int .i64 0),(5,.sl A),(6,.bool true),(7,.str o),(8,.str hx),(10,.int .i64 0),(11,.map 0),(12,.map 1),(14,.junk),(15,.junk),(83,.sl (r.map rowW)),(84,.int .i64 r.length),(85,.int .i64 i)] [.map (encM eStr ml),.map (encM eNat mn)]
 | [],i,sd,ml,mn,hd,hm,h1,h2 => by
  have hi2 := drop_nil hd
  have hl : ltB (i : Int) (r.length : Int) = false := ltB_not.2 (by omega)
  refine head_go (Mc.bundle_Read_L0.eq_1) ?_
  rw [vtrunc_len (n := 2) rfl]
  generalize hL : r.map rowW = L
  simp [hl,tailP,scanP,resRead,pureQ,Rs.bundle_Read]
 | w :: rest,i,sd,ml,mn,hd,hm,hn1,hn2 => by
  obtain ⟨hlt,hw,hwd⟩ := drop_cons hd
  have hl : ltB (i : Int) (r.length : Int) = true := ltB_iff.2 (by omega)
  obtain ⟨hne,hwl,hwx⟩ := hall w (List.mem_of_getElem? hw)
  have a0 : ∀ h,iadrAV 1 h (.sl (r.map rowW)) (.int .i64 i) = some (.fptr [.sl (w.map rStr.enc)] 0) := fun h => rowW_at hw h
  have wi : IntKind.i64.wrap ((i : Int) + 1) = (i : Int) + 1 := wrap1 (by unfold big; omega)
  have wn : IntKind.i64.wrap ((sd.np : Int) + 1) = (sd.np : Int) + 1 := wrap1 (by unfold big; omega)
  have ws : IntKind.i64.wrap ((sd.ns : Int) + 1) = (sd.ns : Int) + 1 := wrap1 (by unfold big; omega)
  have cf : ∀ st h,opV G st h (.call Fn.bundle_file) (some [.sl (w.map rStr.enc)]) = some (.bool (fileOkP w),h) := fun st h => op_call hF (us := [.sl (w.map rStr.enc)]) (by simp [viewL,view]) (by
   have e : decStrs (w.map rStr.enc) = some w := by
    clear hd hw hne hwl hwx a0
    induction w with
    | nil => rfl
    | cons x r ih => simp [decStrs] at ih ⊢; simpa using ih
   simp only [F_mfile,e]
   rw [if_pos ⟨hwl,List.all_eq_true.2 fun x hx => by have := hwx x hx; simpa using this⟩]) (.inl rfl)
  have ih := fun sd' ml' mn' (h0 : MapsP sd' ml' mn') h1 h2 => bread_L0 G hF s o hx A r hlen hall rest (i + 1) sd' ml' mn' hwd h0 h1 h2
  refine head_go (Mc.bundle_Read_L0.eq_1) ?_
  rw [vtrunc_len (n := 2) rfl]
  match w,hne with
  | k :: tl,_ =>
   have b0 : ∀ h,iadrAV 1 h (.sl ((k :: tl).map rStr.enc)) (.int .i64 0) = some (.fptr [.str k] 0) := fun h => rfl
   generalize hL : r.map rowW = L at a0 ih ⊢
   have lkS : ∀ a st,opV G st [a,.map (encM eNat mn)] (.look .s false (.int .i64 0)) (some [.map 1,.str [115,111,117,114,99,101]]) = some (.int .i64 sd.ns,[a,.map (encM eNat mn)]) := fun a st => lkN (key := wSource) hm.ns a st
   by_cases k1 : k = wPaper
   ·subst k1
    have q1 : ((wPaper : Bs) == [112,97,112,101,114]) = true := by decide
    have q2 : ((wPaper : Bs) == [115,111,117,114,99,101]) = false := by decide
    by_cases n0 : sd.ns = 0
    ·have lkS0 : ∀ a st,opV G st [a,.map (encM eNat mn)] (.look .s false (.int .i64 0)) (some [.map 1,.str [115,111,117,114,99,101]]) = some (.int .i64 0,[a,.map (encM eNat mn)]) := fun a st => by rw [lkS,n0]; rfl
     have lk1 := fun b => lkL (G := G) (ml := ml) hm.lp b
     have lk2 := fun a => lkN (G := G) (mn := mn) hm.np a
     cases hfo : fileOkP (wPaper :: tl) with
     | false =>
      rw [hfo] at cf
      rw [show scanP fileOkP sd ((wPaper :: tl) :: rest) = false from by rw [scanP_p n0,if_pos hfo]]
      generalize hW : (wPaper :: tl : List Bs).map rStr.enc = WR at a0 b0 cf
      simp [hl,a0,b0,q1,lkS0,cf,resRead,pureQ,Rs.bundle_Read]
     | true =>
      rw [hfo] at cf
      obtain ⟨p,z,d,rfl⟩ := fileOkP_four hfo
      have hsc : scanP fileOkP sd ([wPaper,p,z,d] :: rest) = (if Op.bytesLess sd.lp p = false then false else if sd.np = 64 then false else scanP fileOkP { sd with np := sd.np + 1,lp := p } rest) := by
       rw [scanP_p n0,if_neg (by rw [hfo]; simp)]; rfl
      have b1 : ∀ h,iadrAV 1 h (.sl (([wPaper,p,z,d] : List Bs).map rStr.enc)) (.int .i64 1) = some (.fptr [.str p] 0) := fun h => rfl
      obtain ⟨WR,hW⟩ : ∃ WR,WR = ([wPaper,p,z,d] : List Bs).map rStr.enc := ⟨_,rfl⟩
      rw [← hW] at a0 b0 b1 cf
      by_cases hbl : Op.bytesLess sd.lp p = false
      ·rw [if_pos hbl] at hsc
       rw [hsc]
       simp [hl,a0,b0,b1,q1,lkS0,cf,lk1,leqS,hbl,resRead,pureQ,Rs.bundle_Read]
      ·rw [if_neg hbl] at hsc
       replace hbl : Op.bytesLess sd.lp p = true := by simpa using hbl
       by_cases n6 : sd.np = 64
       ·rw [if_pos n6] at hsc
        rw [hsc]
        rw [n6] at lk2
        simp [hl,a0,b0,b1,q1,lkS0,cf,lk1,lk2,leqS,hbl,resRead,pureQ,Rs.bundle_Read]
       ·rw [if_neg n6] at hsc
        rw [hsc]
        have e6 : eqB (sd.np : Int) 64 = false := eqB_not.2 (by omega)
        have ih2 := ih { sd with np := sd.np + 1,lp := p } (putM wPaper p ml) (putM wPaper (sd.np + 1) mn) ⟨by rw [lookM_put,if_pos rfl]; rfl,by rw [lookM_put,if_neg (by decide)]; exact hm.ls,by rw [lookM_put,if_pos rfl]; rfl,by rw [lookM_put,if_neg (by decide)]; exact hm.ns⟩ (by simp only; omega) hn2
        simp [hl,a0,b0,b1,q1,lkS0,cf,lk1,lk2,leqS,hbl,e6,upL,upN,wn,wi]
        refine head_of ?_
        simpa [junkAll,vtrunc_len (n := 2) (show ([_,_] : Heap).length = 2 from rfl)] using ih2
    ·rw [scanP_n (fun h => n0 h.2) (by decide)]
     have e1 : eqB (sd.ns : Int) 0 = false := eqB_not.2 (by omega)
     generalize hW : (wPaper :: tl : List Bs).map rStr.enc = WR at a0 b0 cf
     simp [hl,a0,b0,q1,q2,lkS,e1,resRead,pureQ,Rs.bundle_Read]
   ·have q1 : (k == ([112,97,112,101,114] : Bs)) = false := beq_eq_false_iff_ne.2 k1
    by_cases k2 : k = wSource
    ·subst k2
     have q2 : ((wSource : Bs) == [115,111,117,114,99,101]) = true := by decide
     have lk1 := fun b => lkL (G := G) (ml := ml) hm.ls b
     have lk2 := fun a => lkN (G := G) (mn := mn) hm.ns a
     cases hfo : fileOkP (wSource :: tl) with
     | false =>
      rw [hfo] at cf
      rw [show scanP fileOkP sd ((wSource :: tl) :: rest) = false from by rw [scanP_s,if_pos hfo]]
      generalize hW : (wSource :: tl : List Bs).map rStr.enc = WR at a0 b0 cf
      simp [hl,a0,b0,q1,q2,cf,resRead,pureQ,Rs.bundle_Read]
     | true =>
      rw [hfo] at cf
      obtain ⟨p,z,d,rfl⟩ := fileOkP_four hfo
      have hsc : scanP fileOkP sd ([wSource,p,z,d] :: rest) = (if Op.bytesLess sd.ls p = false then false else if sd.ns = 64 then false else scanP fileOkP { sd with ns := sd.ns + 1,ls := p } rest) := by
       rw [scanP_s,if_neg (by rw [hfo]; simp)]; rfl
      have b1 : ∀ h,iadrAV 1 h (.sl (([wSource,p,z,d] : List Bs).map rStr.enc)) (.int .i64 1) = some (.fptr [.str p] 0) := fun h => rfl
      obtain ⟨WR,hW⟩ : ∃ WR,WR = ([wSource,p,z,d] : List Bs).map rStr.enc := ⟨_,rfl⟩
      rw [← hW] at a0 b0 b1 cf
      by_cases hbl : Op.bytesLess sd.ls p = false
      ·rw [if_pos hbl] at hsc
       rw [hsc]
       simp [hl,a0,b0,b1,q1,q2,cf,lk1,leqS,hbl,resRead,pureQ,Rs.bundle_Read]
      ·rw [if_neg hbl] at hsc
       replace hbl : Op.bytesLess sd.ls p = true := by simpa using hbl
       by_cases n6 : sd.ns = 64
       ·rw [if_pos n6] at hsc
        rw [hsc]
        rw [n6] at lk2
        simp [hl,a0,b0,b1,q1,q2,cf,lk1,lk2,leqS,hbl,resRead,pureQ,Rs.bundle_Read]
       ·rw [if_neg n6] at hsc
        rw [hsc]
        have e6 : eqB (sd.ns : Int) 64 = false := eqB_not.2 (by omega)
        have ih2 := ih { sd with ns := sd.ns + 1,ls := p } (putM wSource p ml) (putM wSource (sd.ns + 1) mn) ⟨by rw [lookM_put,if_neg (by decide)]; exact hm.lp,by rw [lookM_put,if_pos rfl]; rfl,by rw [lookM_put,if_neg (by decide)]; exact hm.np,by rw [lookM_put,if_pos rfl]; rfl⟩ hn1 (by simp only; omega)
        simp [hl,a0,b0,b1,q1,q2,cf,lk1,lk2,leqS,hbl,e6,upL,upN,ws,wi]
        refine head_of ?_
        simpa [junkAll,vtrunc_len (n := 2) (show ([_,_] : Heap).length = 2 from rfl)] using ih2
    ·have q2 : (k == ([115,111,117,114,99,101] : Bs)) = false := beq_eq_false_iff_ne.2 k2
     rw [scanP_n (fun h => k1 h.1) k2]
     generalize hW : (k :: tl : List Bs).map rStr.enc = WR at a0 b0 cf
     simp [hl,a0,b0,q1,q2,resRead,pureQ,Rs.bundle_Read]
def F_readP : List AV → Option AV
 | [.str s] => if s.length ≤ 900000 then some (resRead (readP s)) else none
 | _ => none
theorem Read_ok {G : Gam} (hW : G Fn.bundle_rows = some (.pure F_rows)) (hP : G Fn.tree_Path = some (.pure F_Path)) (hF0 : G Fn.bundle_file = some (.pure F_mfile)) (hD : G Fn.q69 = some (.pure F_dParse)) : ∀ args r,F_readP args = some r → wpM G Mc.bundle_Read (pureQ Rs.bundle_Read r) [] (frInit Ks.bundle_Read args) [] := by
 intro args r hF
 unfold F_readP at hF
 split at hF
 ·rename_i s
  split at hF
  ·rename_i hb
   injection hF with hF; subst hF
   have c0 : ∀ st h,opV G st h (.call Fn.bundle_rows) (some [.str s]) = some (resRows (rowsE s),h) := fun st h => op_call hW (us := [.str s]) rfl (by simp only [F_rows]; rw [if_pos (by omega)]) (.inr rfl)
   rw [wpM_go]
   cases hwe : rowsE s with
   | none =>
    rw [hwe] at c0
    simp [Mc.bundle_Read,Ks.bundle_Read,frInit,c0,resRows,readP,hwe,resRead,pureQ,Rs.bundle_Read]
   | some l =>
    obtain ⟨hll,hlw⟩ := rows_bound hb hwe
    have hre : readP s = (headOf l).bind fun q => if scanP fileOkP ⟨0,0,[],[]⟩ q.2.2 then some (q.1,q.2.1) else none := by unfold readP; rw [hwe]
    rw [hre]
    rw [hwe] at c0
    have fail : headOf l = none → resRead ((headOf l).bind fun q => if scanP fileOkP ⟨0,0,[],[]⟩ q.2.2 then some (q.1,q.2.1) else none) = .tup [.str [],.str [],.int .i64 17] := fun e => by rw [e]; rfl
    match l,hll,hlw with
    | [],_,_ =>
     rw [fail rfl]
     simp [Mc.bundle_Read,Ks.bundle_Read,frInit,c0,resRows,ltB,pureQ,Rs.bundle_Read]
    | [w],_,_ =>
     rw [fail (by unfold headOf; split <;> simp_all)]
     simp [Mc.bundle_Read,Ks.bundle_Read,frInit,c0,resRows,ltB,pureQ,Rs.bundle_Read]
    | w0 :: w1 :: r0,hll,hlw =>
     have h2 : ltB (((w0 :: w1 :: r0).map rowW).length : Int) 2 = false := ltB_not.2 (by simp; omega)
     have a0 : ∀ h,iadrAV 1 h (.sl ((w0 :: w1 :: r0).map rowW)) (.int .i64 0) = some (.fptr [.sl (w0.map rStr.enc)] 0) := fun h => rowW_at (i := 0) rfl h
     have a1 : ∀ h,iadrAV 1 h (.sl ((w0 :: w1 :: r0).map rowW)) (.int .i64 1) = some (.fptr [.sl (w1.map rStr.enc)] 0) := fun h => rowW_at (i := 1) rfl h
     simp only [resRows] at c0
     by_cases l0 : w0.length = 2
     ·match w0,l0 with
      | [k0,o],_ =>
       have ho : o.length ≤ 900000 := (hlw [k0,o] (by simp)).2.2 o (by simp)
       have b0 : ∀ h,iadrAV 1 h (.sl ([k0,o].map rStr.enc)) (.int .i64 0) = some (.fptr [.str k0] 0) := fun h => rfl
       have b1 : ∀ h,iadrAV 1 h (.sl ([k0,o].map rStr.enc)) (.int .i64 1) = some (.fptr [.str o] 0) := fun h => rfl
       have hl2 : (([k0,o] : List Bs).map rStr.enc).length = 2 := rfl
       have c1 : ∀ st h,opV G st h (.call Fn.tree_Path) (some [.str o]) = some (.int .i64 (if pathOK o then 0 else 2),h) := fun st h => op_call hP (us := [.str o]) rfl (F1_use (A := eStr) (R := eInt) (x := o) (r := if pathOK o then 0 else 2) (by rw [if_pos (by omega)])) (.inl rfl)
       by_cases l1 : w1.length = 2
       ·match w1,l1 with
        | [k1,hx],_ =>
         have hhx : hx.length ≤ 900000 := (hlw [k1,hx] (by simp)).2.2 hx (by simp)
         have d0 : ∀ h,iadrAV 1 h (.sl ([k1,hx].map rStr.enc)) (.int .i64 0) = some (.fptr [.str k1] 0) := fun h => rfl
         have d1 : ∀ h,iadrAV 1 h (.sl ([k1,hx].map rStr.enc)) (.int .i64 1) = some (.fptr [.str hx] 0) := fun h => rfl
         have hl3 : (([k1,hx] : List Bs).map rStr.enc).length = 2 := rfl
         have c2 : ∀ st h,opV G st h (.call Fn.q69) (some [.str hx]) = some (.tup [.str (dparseE hx).1,.int .i64 (dparseE hx).2],h) := fun st h => op_call hD (us := [.str hx]) rfl (by simp only [F_dParse]; rw [if_pos (by unfold big; omega)]) (.inl rfl)
         have sl : ∀ st h,opV G st h (.slc (some 1) true false false) (some [.sl (([k0,o] :: [k1,hx] :: r0).map rowW),.int .i64 2]) = some (.sl (r0.map rowW),h) := fun st h => slcr_lo (a := 2) (by simp) (sizesOk_map (e := rowW) (fun _ => rfl) _)
         by_cases k0e : k0 = wOutput
         ·have q0 : (k0 == ([111,117,116,112,117,116] : Bs)) = true := beq_iff_eq.2 k0e
          by_cases k1e : k1 = wBinary
          ·have q1 : (k1 == ([98,105,110,97,114,121] : Bs)) = true := beq_iff_eq.2 k1e
           by_cases hde : (dparseE hx).2 = 0
           ·have e0 : eqB (dparseE hx).2 0 = true := eqB_iff.2 hde
            rw [hde] at c2
            cases hpo : pathOK o with
            | false =>
             rw [hpo] at c1
             rw [fail (by simp [headOf,hpo])]
             generalize hL : ([k0,o] :: [k1,hx] :: r0).map rowW = L at c0 h2 a0 a1 ⊢
             generalize hW0 : ([k0,o] : List Bs).map rStr.enc = W0 at a0 b0 b1 hl2
             generalize hW1 : ([k1,hx] : List Bs).map rStr.enc = W1 at a1 d0 d1 hl3
             simp [Mc.bundle_Read,Ks.bundle_Read,frInit,c0,h2,a0,a1,b0,b1,d0,d1,hl2,hl3,q0,q1,c1,c2,eqB_20,pureQ,Rs.bundle_Read]
            | true =>
             rw [hpo] at c1
             have hh : headOf ([k0,o] :: [k1,hx] :: r0) = some (o,hx,r0) := by simp [headOf,k0e,k1e,hpo,hde]
             rw [hh]
             simp only [Option.bind_some]
             have ih := bread_L0 G hF0 s o hx (([k0,o] :: [k1,hx] :: r0).map rowW) r0 (by simp at hll; omega) (fun w hw => ⟨(hlw w (by simp [hw])).1,(hlw w (by simp [hw])).2.1,fun x hx' => by have := (hlw w (by simp [hw])).2.2 x hx'; omega⟩) r0 0 ⟨0,0,[],[]⟩ [] [] rfl ⟨rfl,rfl,rfl,rfl⟩ (by simp) (by simp)
             have hr0 : (r0.map rowW).length = r0.length := by simp
             generalize hL : ([k0,o] :: [k1,hx] :: r0).map rowW = L at c0 h2 a0 a1 sl ih ⊢
             generalize hW0 : ([k0,o] : List Bs).map rStr.enc = W0 at a0 b0 b1 hl2
             generalize hW1 : ([k1,hx] : List Bs).map rStr.enc = W1 at a1 d0 d1 hl3
             generalize hR : r0.map rowW = R at sl ih hr0
             simp [Mc.bundle_Read,Ks.bundle_Read,frInit,c0,h2,a0,a1,b0,b1,d0,d1,hl2,hl3,q0,q1,c1,c2,sl,hr0]
             simpa [tailP,encM] using ih
           ·have e0 : eqB (dparseE hx).2 0 = false := eqB_not.2 hde
            rw [fail (by simp [headOf,hde])]
            generalize hL : ([k0,o] :: [k1,hx] :: r0).map rowW = L at c0 h2 a0 a1 ⊢
            generalize hW0 : ([k0,o] : List Bs).map rStr.enc = W0 at a0 b0 b1 hl2
            generalize hW1 : ([k1,hx] : List Bs).map rStr.enc = W1 at a1 d0 d1 hl3
            simp [Mc.bundle_Read,Ks.bundle_Read,frInit,c0,h2,a0,a1,b0,b1,d0,d1,hl2,hl3,q0,q1,c2,e0,pureQ,Rs.bundle_Read]
          ·have q1 : (k1 == ([98,105,110,97,114,121] : Bs)) = false := beq_eq_false_iff_ne.2 k1e
           rw [fail (by simp [headOf,k1e])]
           generalize hL : ([k0,o] :: [k1,hx] :: r0).map rowW = L at c0 h2 a0 a1 ⊢
           generalize hW0 : ([k0,o] : List Bs).map rStr.enc = W0 at a0 b0 b1 hl2
           generalize hW1 : ([k1,hx] : List Bs).map rStr.enc = W1 at a1 d0 d1 hl3
           simp [Mc.bundle_Read,Ks.bundle_Read,frInit,c0,h2,a0,a1,b0,d0,hl2,hl3,q0,q1,pureQ,Rs.bundle_Read]
         ·have q0 : (k0 == ([111,117,116,112,117,116] : Bs)) = false := beq_eq_false_iff_ne.2 k0e
          rw [fail (by simp [headOf,k0e])]
          generalize hL : ([k0,o] :: [k1,hx] :: r0).map rowW = L at c0 h2 a0 a1 ⊢
          generalize hW0 : ([k0,o] : List Bs).map rStr.enc = W0 at a0 b0 b1 hl2
          generalize hW1 : ([k1,hx] : List Bs).map rStr.enc = W1 at a1 d0 d1 hl3
          simp [Mc.bundle_Read,Ks.bundle_Read,frInit,c0,h2,a0,a1,b0,hl2,hl3,q0,pureQ,Rs.bundle_Read]
       ·have q2 : eqB (w1.length : Int) 2 = false := eqB_not.2 (by omega)
        rw [fail (by unfold headOf; split <;> simp_all)]
        generalize hL : ([k0,o] :: w1 :: r0).map rowW = L at c0 h2 a0 a1 ⊢
        generalize hW0 : ([k0,o] : List Bs).map rStr.enc = W0 at a0 b0 b1 hl2
        simp [Mc.bundle_Read,Ks.bundle_Read,frInit,c0,h2,a0,a1,hl2,q2,pureQ,Rs.bundle_Read]
     ·have q2 : eqB (w0.length : Int) 2 = false := eqB_not.2 (by omega)
      rw [fail (by unfold headOf; split <;> simp_all)]
      generalize hL : (w0 :: w1 :: r0).map rowW = L at c0 h2 a0 a1 ⊢
      simp [Mc.bundle_Read,Ks.bundle_Read,frInit,c0,h2,a0,q2,pureQ,Rs.bundle_Read]
  ·cases hF
 ·cases hF
end Go.Proofs.YtaadifodgahnjaaGreatDoor
namespace Go.Proofs.YtaadifodgahnjaaGreatDoor
open Go.RowKit Go.IntWalk
def F_BundleReads : List AV → Option AV
 | [.str s] => if s.length < big then some (.bool true) else none
 | _ => none
theorem BundleReads_ok {G : Gam} (hA : G Fn.q44 = some (.pure F_awake)) (hP : G Fn.bundle_Read = some (.pure F_readP)) (hR : G Fn.q56 = some (.pure F_readR)) :
  ∀ args r,F_BundleReads args = some r → wpM G Mc.q25 (pureQ Rs.q25 r) [] (frInit Ks.q25 args) [] := by
 intro args r hF0
 unfold F_BundleReads at hF0
 split at hF0
 ·rename_i s
  split at hF0
  ·rename_i hsb
   injection hF0 with hF0; subst hF0
   have ka : ∀ st h,opV G st h (.call Fn.q44) (some []) = some (.bool true,h) := fun st h => op_call hA (us := []) rfl rfl (.inl rfl)
   rw [wpM_go]
   by_cases hl : 20000 < s.length
   ·have q : ltB 20000 (s.length : Int) = true := ltB_iff.2 (by omega)
    simp [Mc.q25,frInit,Ks.q25,lenAV,ka,q,pureQ,Rs.q25]
   ·have q : ltB 20000 (s.length : Int) = false := ltB_not.2 (by omega)
    obtain ⟨a,b,e,hr⟩ : ∃ a b e,resRead (readR s) = .tup [.str a,.str b,.int .i64 e] := by
     cases readR s with
     | none => exact ⟨_,_,_,rfl⟩
     | some p => obtain ⟨x,y⟩ := p; exact ⟨_,_,_,rfl⟩
    have kp : ∀ st h,opV G st h (.call Fn.bundle_Read) (some [.str s]) = some (.tup [.str a,.str b,.int .i64 e],h) := fun st h => op_call hP (us := [.str s]) rfl (by simp only [F_readP]; rw [if_pos (by omega),read_eq,hr]) (.inl rfl)
    have kr : ∀ st h,opV G st h (.call Fn.q56) (some [.str s]) = some (.tup [.str a,.str b,.int .i64 e],h) := fun st h => op_call hR (us := [.str s]) rfl (by simp only [F_readR]; rw [if_pos (by omega),hr]) (.inl rfl)
    simp [Mc.q25,frInit,Ks.q25,lenAV,ka,q,kp,kr,strBin,pureQ,Rs.q25]
  ·cases hF0
 ·cases hF0
end Go.Proofs.YtaadifodgahnjaaGreatDoor
