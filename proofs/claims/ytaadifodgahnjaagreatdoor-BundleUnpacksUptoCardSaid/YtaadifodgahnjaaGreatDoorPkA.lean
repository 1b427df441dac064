/- Readers: texts,the reference's. Readers: the end; the bytes of numbers and texts. The bytes of texts. Bundles: the files of a tree,read. Bundles: the files of a tree,read: the reference's. Trees,b -/
import Derived.Test.YtaadifodgahnjaaGreatDoorRmB
import Derived.Test.YtaadifodgahnjaaGreatDoorRmV
import Derived.Test.YtaadifodgahnjaaGreatDoorAm10
import Derived.Test.YtaadifodgahnjaaGreatDoorRmD
namespace Go.Proofs.YtaadifodgahnjaaGreatDoor
open Go.RowKit Go.IntWalk
theorem rdTextR_ok {G : Gam} (hC : G Fn.q59 = some (.pure F_Count)) (hF0 : G Fn.q24 = some (.gen F_fail)) : ∀ args h r h',F_rdText args h = some (r,h') →
  wpM G Mc.q23 (genQ Rs.q23 r h') [] (frInit Ks.q23 args) h := by
 intro args h r h' hF
 unfold F_rdText at hF
 split at hF
 ·rename_i l most
  split at hF
  ·rename_i tg s er hh
   split at hF
   ·rename_i hsz
    simp only [Option.some.injEq,Prod.mk.injEq] at hF; obtain ⟨rfl,rfl⟩ := hF
    have hl : l < h.length := (List.getElem?_eq_some_iff.1 hh).1
    have g1 : loadAV 1 false h (.ptr l 1) = some (.int .i64 er) := by simp [loadAV,hh,cut,mkVal]
    have g0 : loadAV 1 false h (.ptr l 0) = some (.str s) := by simp [loadAV,hh,cut,mkVal]
    rw [wpM_go]
    by_cases he : er = 0
    ·subst he
     have cc : ∀ st,opV G st h (.call Fn.q59) (some [.str s,.int .i64 65536,.int .u8 58]) = some (cntR (cntE 65536 58 s 0 0),h) := fun st => by
      have hf : F_Count [.str s,.int .i64 65536,.int .u8 58] = some (cntR (cntE 65536 58 s 0 0)) := by
       simp only [F_Count]
       rw [if_pos ⟨by unfold big; omega,by omega,by omega,by omega,by omega⟩]
       rfl
      exact op_call hC (us := [.str s,.int .i64 65536,.int .u8 58]) rfl hf (.inl (by cases cntE 65536 58 s 0 0 <;> rfl))
     have cf : ∀ e : Int,opV G false h (.call Fn.q24) (some [.ptr l 0,.int .i64 e]) = some (.tup [],h.set l (rdBlk tg ⟨[],e⟩)) := fun e => by
      rw [op_call_gen hF0]; simp [F_fail,hh]
     have qm : ltB (-1) 0 = true := rfl
     simp only [rdText]
     rw [if_neg (by simp)]
     cases hcn : cntE 65536 58 s 0 0 with
     | short =>
      rw [hcn] at cc
      simp [Mc.q23,frInit,Ks.q23,hh,cc,cntR,cf,qm,genQ,Rs.q23]
     | corrupt =>
      rw [hcn] at cc
      simp [Mc.q23,frInit,Ks.q23,hh,cc,cntR,cf,qm,genQ,Rs.q23]
     | ok n i =>
      rw [hcn] at cc
      obtain ⟨k1,k2,k3⟩ := cnt_of hcn
      have hi : i + 1 ≤ s.length := by
       have := congrArg List.length k1
       simp only [List.length_append,List.length_cons,List.length_drop] at this
       omega
      have qi : ltB (i : Int) 0 = false := ltB_not.2 (by omega)
      have wi : IntKind.i64.wrap ((i : Int) + 1) = (i : Int) + 1 := i64_in _ ⟨by omega,by omega⟩
      have wn : IntKind.i64.wrap ((n : Int) + 1) = (n : Int) + 1 := i64_in _ ⟨by omega,by omega⟩
      obtain ⟨body,hbd⟩ : ∃ body,body = s.drop (i + 1) := ⟨_,rfl⟩
      have hblen : body.length = s.length - (i + 1) := by rw [hbd]; simp
      have sb : ∀ st,opV G st h (.slc none true false false) (some [.str s,.int .i64 ((i : Int) + 1)]) = some (.str body,h) := fun st => by rw [hbd]; exact op_slcs hi
      dsimp only
      rw [← hbd]
      by_cases b0 : body.length ≤ n
      ·have l0 : ltB (n : Int) (body.length : Int) = false := ltB_not.2 (by omega)
       rw [List.getElem?_eq_none b0]
       simp [Mc.q23,frInit,Ks.q23,hh,lenAV,cc,cntR,cf,qi,wi,sb,l0,genQ,Rs.q23]
      ·have l0 : ltB (n : Int) (body.length : Int) = true := ltB_iff.2 (by omega)
       obtain ⟨c,hc⟩ : ∃ c,body[n]? = some c := ⟨_,List.getElem?_eq_getElem (by omega)⟩
       rw [hc]
       have is : ∀ st h,opV G st h .istr (some [.str body,.int .i64 n]) = some (.int .u8 c.toNat,h) := fun st h => op_istr hc
       by_cases b1 : c = 44
       ·subst b1
        by_cases b2 : most < (n : Int)
        ·have l2 : ltB most (n : Int) = true := ltB_iff.2 b2
         simp only [ne_eq,not_true_eq_false,if_false,if_pos b2]
         simp [Mc.q23,frInit,Ks.q23,hh,lenAV,cc,cntR,cf,qi,wi,sb,l0,is,l2,genQ,Rs.q23]
        ·have l2 : ltB most (n : Int) = false := ltB_not.2 (by omega)
         simp only [ne_eq,not_true_eq_false,if_false,if_neg b2]
         have s2 : ∀ st h,opV G st h (.slc none false true false) (some [.str body,.int .i64 n]) = some (.str (body.take n),h) := fun st h => slc_hi (by omega)
         have s3 : ∀ st h,opV G st h (.slc none true false false) (some [.str body,.int .i64 ((n : Int) + 1)]) = some (.str (body.drop (n + 1)),h) := fun st h => slc_lo (k := n + 1) (by omega) (by omega)
         simp [Mc.q23,frInit,Ks.q23,hh,lenAV,cc,cntR,qi,wi,wn,sb,l0,is,l2,s2,s3,oneC,AV.cells,setAt,rdBlk,genQ,Rs.q23]
       ·have l1 : eqB (c.toNat : Int) 44 = false := eqB_not.2 fun e => b1 (UInt8.toNat_inj.1 (by simp; omega))
        simp only [ne_eq,b1,not_false_eq_true,if_true]
        simp [Mc.q23,frInit,Ks.q23,hh,lenAV,cc,cntR,cf,qi,wi,sb,l0,is,l1,genQ,Rs.q23]
    ·have q : eqB er 0 = false := eqB_not.2 he
     have e1 : rdText most ⟨s,er⟩ = ([],⟨s,er⟩) := rdText_err he
     rw [e1]
     have hst : h.set l (rdBlk tg ⟨s,er⟩) = h := set_here hh
     simp [Mc.q23,frInit,Ks.q23,hh,q,hst,genQ,Rs.q23]
   ·cases hF
  ·cases hF
 ·cases hF
end Go.Proofs.YtaadifodgahnjaaGreatDoor
namespace Go.Proofs.YtaadifodgahnjaaGreatDoor
open Go.RowKit Go.IntWalk
def F_Close : List AV → Heap → Option AV
 | [.ptr l 0],h => match h[l]? with
  | some (.cellsT _ [.str s,.int .i64 er]) => some (.int .i64 (rdClose ⟨s,er⟩))
  | _ => none
 | _,_ => none
theorem Close_ok {G : Gam} : ∀ args h r,F_Close args h = some r → wpM G Mc.q37 (lookQ Rs.q37 r h) [] (frInit Ks.q37 args) h := by
 intro args h r hF
 unfold F_Close at hF
 split at hF
 ·rename_i l
  split at hF
  ·rename_i tg s er hh
   injection hF with hF; subst hF
   have g1 : loadAV 1 false h (.ptr l 1) = some (.int .i64 er) := by simp [loadAV,hh,cut,mkVal]
   have g0 : loadAV 1 false h (.ptr l 0) = some (.str s) := by simp [loadAV,hh,cut,mkVal]
   rw [wpM_go]
   by_cases he : er = 0
   ·subst he
    by_cases hs : s = []
    ·have bn : binAV .neq (.str s) (.str []) = some (.bool false) := by simp [binAV,strBin,hs]
     simp [Mc.q37,frInit,Ks.q37,hh,hs,rdClose,lookQ,Rs.q37]
     try simp [hs] at bn
     try simp [bn]
    ·have bn : binAV .neq (.str s) (.str []) = some (.bool true) := by simp [binAV,strBin,hs]
     simp [Mc.q37,frInit,Ks.q37,hh,bn,rdClose,hs,lookQ,Rs.q37]
   ·have q : eqB er 0 = false := eqB_not.2 he
    simp [Mc.q37,frInit,Ks.q37,hh,q,rdClose,he,lookQ,Rs.q37]
  ·cases hF
 ·cases hF
theorem CloseR_ok {G : Gam} : ∀ args h r,F_Close args h = some r → wpM G Mc.q21 (lookQ Rs.q21 r h) [] (frInit Ks.q21 args) h := Close_ok
def F_NewReader : List AV → Heap → Option (AV × Heap)
 | [.str s],h => some (.ptr h.length 0,h ++ [rdBlk none ⟨s,0⟩])
 | _,_ => none
theorem NewReader_ok {G : Gam} : ∀ args h r h',F_NewReader args h = some (r,h') → wpM G Mc.q68 (genQ Rs.q68 r h') [] (frInit Ks.q68 args) h := by
 intro args h r h' hF
 unfold F_NewReader at hF
 split at hF
 ·rename_i s
  simp only [Option.some.injEq,Prod.mk.injEq] at hF; obtain ⟨rfl,rfl⟩ := hF
  rw [wpM_go]
  simp [Mc.q68,frInit,Ks.q68,bldAV,AV.cells,setAt,rdBlk,genQ,Rs.q68]
 ·cases hF
def F_Number : List AV → Option AV
 | [.int .i64 n] => if 0 ≤ n ∧ n ≤ 281474976710656 then some (.tup [.str (numB n.toNat),.int .i64 0]) else some (.tup [.str [],.int .i64 3])
 | _ => none
def F_TextB : List AV → Option AV
 | [.str s] => if 1000000 < s.length then none else if s.length ≤ 65536 then some (.tup [.str (textB s),.int .i64 0]) else some (.tup [.str [],.int .i64 10])
 | _ => none
theorem Number_ok {G : Gam} (hI : G Fn.q84 = some (.pure F_Itoa)) : ∀ args r,F_Number args = some r → wpM G Mc.q81 (pureQ Rs.q81 r) [] (frInit Ks.q81 args) [] := by
 intro args r hF
 unfold F_Number at hF
 split at hF
 ·rename_i n
  rw [wpM_go]
  by_cases h0 : n < 0
  ·rw [if_neg (by omega)] at hF
   injection hF with hF; subst hF
   have q0 : ltB n 0 = true := ltB_iff.2 h0
   simp [Mc.q81,frInit,Ks.q81,q0,pureQ,Rs.q81]
  ·have q0 : ltB n 0 = false := ltB_not.2 (by omega)
   by_cases h1 : 281474976710656 < n
   ·rw [if_neg (by omega)] at hF
    injection hF with hF; subst hF
    have q1 : ltB 281474976710656 n = true := ltB_iff.2 h1
    simp [Mc.q81,frInit,Ks.q81,q0,q1,pureQ,Rs.q81]
   ·rw [if_pos ⟨by omega,by omega⟩] at hF
    injection hF with hF; subst hF
    have q1 : ltB 281474976710656 n = false := ltB_not.2 (by omega)
    have c1 : ∀ st h,opV G st h (.call Fn.q84) (some [.int .i64 n]) = some (.str (Lib.decDigits n.toNat),h) := fun st h => op_call hI (us := [.int .i64 n]) rfl (by simp only [F_Itoa]; rw [if_pos ⟨by omega,by omega⟩,itoa_dec (by omega)]) (.inl rfl)
    have l1 := dec_len 15 n.toNat (by omega)
    have s1 := str_add (a := Lib.decDigits n.toNat) (b := [59]) (by unfold strMax; simp; omega)
    simp [Mc.q81,frInit,Ks.q81,q0,q1,c1,s1,numB,pureQ,Rs.q81]
 ·cases hF
theorem NumberR_ok {G : Gam} (hI : G Fn.q45 = some (.pure (F_Dec 15))) : ∀ args r,F_Number args = some r → wpM G Mc.q48 (pureQ Rs.q48 r) [] (frInit Ks.q48 args) [] := by
 intro args r hF
 unfold F_Number at hF
 split at hF
 ·rename_i n
  rw [wpM_go]
  by_cases h0 : n < 0
  ·rw [if_neg (by omega)] at hF
   injection hF with hF; subst hF
   have q0 : ltB n 0 = true := ltB_iff.2 h0
   simp [Mc.q48,frInit,Ks.q48,q0,pureQ,Rs.q48]
  ·have q0 : ltB n 0 = false := ltB_not.2 (by omega)
   by_cases h1 : 281474976710656 < n
   ·rw [if_neg (by omega)] at hF
    injection hF with hF; subst hF
    have q1 : ltB 281474976710656 n = true := ltB_iff.2 h1
    simp [Mc.q48,frInit,Ks.q48,q0,q1,pureQ,Rs.q48]
   ·rw [if_pos ⟨by omega,by omega⟩] at hF
    injection hF with hF; subst hF
    have q1 : ltB 281474976710656 n = false := ltB_not.2 (by omega)
    have c1 : ∀ st h,opV G st h (.call Fn.q45) (some [.int .i64 n]) = some (.str (Lib.decDigits n.toNat),h) := fun st h => op_call hI (us := [.int .i64 n]) rfl (by simp only [F_Dec]; rw [if_pos ⟨by omega,by omega⟩]) (.inl rfl)
    have l1 := dec_len 15 n.toNat (by omega)
    have s1 := str_add (a := Lib.decDigits n.toNat) (b := [59]) (by unfold strMax; simp; omega)
    simp [Mc.q48,frInit,Ks.q48,q0,q1,c1,s1,numB,pureQ,Rs.q48]
 ·cases hF
end Go.Proofs.YtaadifodgahnjaaGreatDoor
namespace Go.Proofs.YtaadifodgahnjaaGreatDoor
open Go.RowKit Go.IntWalk
theorem TextB_ok {G : Gam} (hI : G Fn.q84 = some (.pure F_Itoa)) : ∀ args r,F_TextB args = some r → wpM G Mc.codec_Text (pureQ Rs.codec_Text r) [] (frInit Ks.codec_Text args) [] := by
 intro args r hF
 unfold F_TextB at hF
 split at hF
 ·rename_i s
  split at hF
  ·cases hF
  ·rename_i hbig
   rw [wpM_go]
   split at hF
   ·rename_i hs
    injection hF with hF; subst hF
    have q1 : ltB 65536 (s.length : Int) = false := ltB_not.2 (by omega)
    have c1 : ∀ st h,opV G st h (.call Fn.q84) (some [.int .i64 (s.length : Int)]) = some (.str (Lib.decDigits s.length),h) := fun st h => op_call hI (us := [.int .i64 (s.length : Int)]) rfl (by simp only [F_Itoa]; rw [if_pos ⟨by omega,by omega⟩,itoa_dec (by omega)]; simp) (.inl rfl)
    have l1 := dec_len 15 s.length (by omega)
    have s1 := str_add (a := Lib.decDigits s.length) (b := [58]) (by unfold strMax; simp; omega)
    have s2 := str_add (a := Lib.decDigits s.length ++ [58]) (b := s) (by unfold strMax; simp; omega)
    have s3 := str_add (a := Lib.decDigits s.length ++ [58] ++ s) (b := [44]) (by unfold strMax; simp; omega)
    simp only [List.append_assoc] at s2 s3
    have hl : (Lib.decDigits s.length).length + (s.length + 1) + 1 ≤ strMax := by unfold strMax; omega
    simp [Mc.codec_Text,frInit,Ks.codec_Text,lenAV,q1,c1,s1,s2,hl,textB,pureQ,Rs.codec_Text]
   ·rename_i hs
    injection hF with hF; subst hF
    have q1 : ltB 65536 (s.length : Int) = true := ltB_iff.2 (by omega)
    simp [Mc.codec_Text,frInit,Ks.codec_Text,lenAV,q1,pureQ,Rs.codec_Text]
 ·cases hF
theorem TextBR_ok {G : Gam} (hI : G Fn.q45 = some (.pure (F_Dec 15))) : ∀ args r,F_TextB args = some r → wpM G Mc.q66 (pureQ Rs.q66 r) [] (frInit Ks.q66 args) [] := by
 intro args r hF
 unfold F_TextB at hF
 split at hF
 ·rename_i s
  split at hF
  ·cases hF
  ·rename_i hbig
   rw [wpM_go]
   split at hF
   ·rename_i hs
    injection hF with hF; subst hF
    have q1 : ltB 65536 (s.length : Int) = false := ltB_not.2 (by omega)
    have c1 : ∀ st h,opV G st h (.call Fn.q45) (some [.int .i64 (s.length : Int)]) = some (.str (Lib.decDigits s.length),h) := fun st h => op_call hI (us := [.int .i64 (s.length : Int)]) rfl (by simp only [F_Dec]; rw [if_pos ⟨by omega,by omega⟩]; simp) (.inl rfl)
    have l1 := dec_len 15 s.length (by omega)
    have s1 := str_add (a := Lib.decDigits s.length) (b := [58]) (by unfold strMax; simp; omega)
    have s2 := str_add (a := Lib.decDigits s.length ++ [58]) (b := s) (by unfold strMax; simp; omega)
    have s3 := str_add (a := Lib.decDigits s.length ++ [58] ++ s) (b := [44]) (by unfold strMax; simp; omega)
    simp only [List.append_assoc] at s2 s3
    have hl : (Lib.decDigits s.length).length + (s.length + 1) + 1 ≤ strMax := by unfold strMax; omega
    simp [Mc.q66,frInit,Ks.q66,lenAV,q1,c1,s1,s2,hl,textB,pureQ,Rs.q66]
   ·rename_i hs
    injection hF with hF; subst hF
    have q1 : ltB 65536 (s.length : Int) = true := ltB_iff.2 (by omega)
    simp [Mc.q66,frInit,Ks.q66,lenAV,q1,pureQ,Rs.q66]
 ·cases hF
end Go.Proofs.YtaadifodgahnjaaGreatDoor
namespace Go.Proofs.YtaadifodgahnjaaGreatDoor
open Go.RowKit Go.IntWalk
def FH (h : Heap) (l : Nat) (tg : Option TypeId) (r : Rd) (ts : List Touch) (x : Heap) : Heap := h.set l (rdBlk tg r) ++ (.arr 2 0 [] true :: .arr 2 ts.length (ts.map Touch.row) true :: x)
section
variable {h x : Heap} {l : Nat} {tg : Option TypeId} {r r' : Rd} {ts : List Touch} {b c : Blk} {t : Touch}
theorem FH_len : (FH h l tg r ts x).length = h.length + 2 + x.length := by simp [FH]; omega
theorem FH_rd (hl : l < h.length) : (FH h l tg r ts x)[l]? = some (rdBlk tg r) := by
 unfold FH; rw [List.getElem?_append_left (by simpa using hl)]; simp [hl]
theorem FH_turn (hl : l < h.length) : (FH h l tg r ts x).set l (rdBlk tg r') = FH h l tg r' ts x := by
 unfold FH; rw [List.set_append_left _ _ (by simpa using hl)]; simp
theorem FH_arr : (FH h l tg r ts x)[h.length + 1]? = some (.arr 2 ts.length (ts.map Touch.row) true) := by
 unfold FH; rw [List.getElem?_append_right (by simp)]; simp
theorem FH_app : (FH h l tg r ts x).set (h.length + 1) (.arr 2 (ts ++ [t]).length ((ts ++ [t]).map Touch.row) true) = FH h l tg r (ts ++ [t]) x := by
 unfold FH; rw [List.set_append_right _ _ (by simp)]; simp
theorem FH_x : (FH h l tg r ts (b :: x))[h.length + 2]? = some b := by
 unfold FH; rw [List.getElem?_append_right (by simp)]; simp
theorem FH_xset : (FH h l tg r ts (b :: x)).set (h.length + 2) c = FH h l tg r ts (c :: x) := by
 unfold FH; rw [List.set_append_right _ _ (by simp)]; simp
theorem FH_snoc : FH h l tg r ts x ++ [b] = FH h l tg r ts (x ++ [b]) := by simp [FH]
theorem FH_cut {fr : List (Nat × AV)} (hlow : lowH h.length h = true) (hf : lowFr (h.length + 2) fr = true) : trunc (h.length + 2) fr (FH h l tg r ts x) = FH h l tg r ts [] := by
 have e : FH h l tg r ts x = FH h l tg r ts [] ++ x := by simp [FH]
 rw [e]
 refine trunc_low (by simp [FH]) hf ?_
 unfold FH
 exact lowH_app (lowH_set (lowH_up (by omega) hlow) rfl) rfl
end
theorem rdNum_bound {lo hi : Int} {s : Bs} {e : Int} (h1 : s.length ≤ 1000000) : (rdNum lo hi ⟨s,e⟩).2.rest.length ≤ 1000000 := by
 unfold rdNum
 split
 ·exact h1
 ·split
  ·split
   ·simp
   ·simp; omega
  ·simp
  ·simp
theorem rdText_bound {most : Int} {s : Bs} {e : Int} (h1 : s.length ≤ 1000000) : (rdText most ⟨s,e⟩).2.rest.length ≤ 1000000 := by
 unfold rdText
 split
 ·exact h1
 ·split
  ·split
   ·simp
   ·split
    ·simp
    ·split
     ·simp
     ·simp; omega
  ·simp
  ·simp
theorem rdNum_range {r : Rd} : 0 ≤ (rdNum 0 64 r).1 ∧ (rdNum 0 64 r).1 ≤ 64 := by
 unfold rdNum
 split
 ·simp
 ·split
  ·split
   ·simp
   ·rename_i h; simp only [not_or,Int.not_lt] at h; exact h
  ·simp
  ·simp
def F_files : List AV → Heap → Option (AV × Heap)
 | [.ptr l 0],h => match h[l]? with
  | some (.cellsT tg [.str s,.int .i64 er]) => if s.length ≤ 1000000 then
    some (.own (h.length + 1) (filesE ⟨s,er⟩).1.length (filesE ⟨s,er⟩).1.length,FH h l tg (filesE ⟨s,er⟩).2 (filesE ⟨s,er⟩).1 []) else none
  | _ => none
 | _,_ => none
def F_unpack : List AV → Heap → Option (AV × Heap)
 | [.ptr l 0],h => match h[l]? with
  | some (.cellsT tg [.str s,.int .i64 er]) => if s.length ≤ 1000000 then
    some (.own (h.length + 1) (filesS ⟨s,er⟩).1.length (filesS ⟨s,er⟩).1.length,FH h l tg (filesS ⟨s,er⟩).2 (filesS ⟨s,er⟩).1 []) else none
  | _ => none
 | _,_ => none
theorem FH_fin {h : Heap} {l : Nat} {tg : Option TypeId} {r : Rd} {ts : List Touch} {rs : List RV} {e : Nat → Option AV} (hlow : lowH h.length h = true) (hr : resAV e (FH h l tg r ts []) rs = some (.own (h.length + 1) ts.length ts.length)) :
  LeaveOK h.length rs e (FH h l tg r ts []) (.own (h.length + 1) ts.length ts.length) (FH h l tg r ts []) := by
 refine ⟨hr,by rw [FH_len]; omega,leaves_self,by simp [low,FH_len],?_⟩
 unfold FH
 exact lowH_app (lowH_set (lowH_up (by simp) hlow) rfl) rfl
section
variable {G : Gam} {h x : Heap} {l : Nat} {tg : Option TypeId} {r : Rd} {ts : List Touch}
theorem FH_text {f : FuncId} (hT : G f = some (.gen F_rdText)) (hl : l < h.length) (hr : r.rest.length ≤ 1000000) (most : Int) :
  opV G false (FH h l tg r ts x) (.call f) (some [.ptr l 0,.int .i64 most]) = some (.str (rdText most r).1,FH h l tg (rdText most r).2 ts x) := by
 rw [op_call_gen hT]
 unfold F_rdText
 simp only [FH_rd hl,rdBlk]
 rw [if_pos hr]
 rw [show (⟨r.rest,r.err⟩ : Rd) = r from rfl]
 rw [show (Blk.cellsT tg [.str (rdText most r).2.rest,.int .i64 (rdText most r).2.err]) = rdBlk tg (rdText most r).2 from rfl,FH_turn hl]
theorem FH_apps (hb : ts.length < big) (t : Touch) : opV G false (FH h l tg r ts x) (.app false 2 32) (some [.own (h.length + 1) ts.length ts.length,.tsl [t.row]]) = some (.own (h.length + 1) (ts ++ [t]).length (ts ++ [t]).length,FH h l tg r (ts ++ [t]) x) := by
 rw [op_app1 (e := Touch.row) (n := 2) (b := 32) (l := h.length + 1) (os := ts) (x := t) FH_arr rfl (by omega) hb,FH_app]
end
theorem files_L0 (G : Gam) (hT : G Fn.q40 = some (.gen F_rdText)) {h : Heap} {l : Nat} {tg : Option TypeId} (hl : l < h.length) (hlow : lowH h.length h = true) :
  ∀ (k i n : Nat) (r : Rd) (ts : List Touch),n = i + k → n ≤ 64 → ts.length = i → r.rest.length ≤ 1000000 →
  headM G [4] Mc.q82_L0 (h.length + 2) [.blk 0,.seq (.seq (.reg [⟨none,some 20,false,.mv,[.t 3]⟩,⟨none,some 2,true,.mv,[.t 20]⟩]) .ret)] (genLQ h.length Rs.q82 (.own (h.length + 1) (ts ++ (readN k r).1).length (ts ++ (readN k r).1).length) (FH h l tg (readN k r).2 (ts ++ (readN k r).1) []))
   [(0,.ptr l 0),(2,.own h.length 0 0),(3,.own (h.length + 1) ts.length ts.length),(4,.junk),(6,.int .i64 n),(7,.int .i64 i)] (FH h l tg r ts [])
 | 0,i,n,r,ts,hn,hk,hi,hr => by
  have q : ltB (i : Int) (n : Int) = false := ltB_not.2 (by omega)
  simp only [readN,List.append_nil]
  refine head_go (Mc.q82_L0.eq_1) ?_
  rw [FH_cut hlow (by simp [junkAll,lowFr,low]; omega)]
  simp [junkAll,q,genLQ]
  exact FH_fin hlow (by simp [resAV,resL,resOne,Rs.q82,getT,lkp])
 | k + 1,i,n,r,ts,hn,hk,hi,hr => by
  have q : ltB (i : Int) (n : Int) = true := ltB_iff.2 (by omega)
  have hw := wrap1 (i := i) (by unfold big; omega)
  obtain ⟨p,r1,e1⟩ : ∃ p r1,rdText 128 r = (p,r1) := ⟨_,_,rfl⟩
  have hr1 : r1.rest.length ≤ 1000000 := by have := rdText_bound (most := 128) (e := r.err) hr; rw [e1] at this; exact this
  obtain ⟨d,r2,e2⟩ : ∃ d r2,rdText 65536 r1 = (d,r2) := ⟨_,_,rfl⟩
  have hr2 : r2.rest.length ≤ 1000000 := by have := rdText_bound (most := 65536) (e := r1.err) hr1; rw [e2] at this; exact this
  have c1 := FH_text (G := G) (h := h) (x := []) (tg := tg) (ts := ts) hT hl hr 128
  rw [e1] at c1
  have c2 := FH_text (G := G) (h := h) (x := [.cells [.str p,.str []]]) (tg := tg) (ts := ts) hT hl hr1 65536
  rw [e2] at c2
  have st1 : stAV 2 (FH h l tg r1 ts [.cells [.str [],.str []]]) (.ptr (h.length + 2) 0) (.agg [.str p,.str []]) = some (FH h l tg r1 ts [.cells [.str p,.str []]]) := by
   simp [stAV,AV.cells,oneC,FH_x,setAt,FH_xset]
  have st2 : stAV 1 (FH h l tg r2 ts [.cells [.str p,.str []]]) (.ptr (h.length + 2) 1) (.str d) = some (FH h l tg r2 ts [.cells [.str p,.str d]]) := by
   simp [stAV,AV.cells,oneC,FH_x,setAt,FH_xset]
  have ld : loadAV 2 true (FH h l tg r2 ts [.cells [.str p,.str d]]) (.ptr (h.length + 2) 0) = some (.agg [.str p,.str d]) := by
   simp [loadAV,FH_x,cut,mkVal]
  have ap := FH_apps (G := G) (h := h) (l := l) (tg := tg) (r := r2) (x := [.cells [.str p,.str d]]) (ts := ts) (by unfold big; omega) ⟨p,d⟩
  simp only [Touch.row] at ap
  have ih := files_L0 G hT hl hlow k (i + 1) n r2 (ts ++ [⟨p,d⟩]) (by omega) hk (by simp [hi]) hr2 (tg := tg)
  simp only [readN,e1,e2]
  refine head_go (Mc.q82_L0.eq_1) ?_
  rw [FH_cut hlow (by simp [junkAll,lowFr,low]; omega)]
  have hlen : (FH h l tg r1 ts []).length = h.length + 2 := by rw [FH_len]; rfl
  simp [junkAll,q,c1,bldAV,AV.cells,setAt,hlen,FH_snoc,st1,c2,st2,FH_x,cut,mkVal,ownsL,owns,viewL,view,sizesOk,onesOk,oneC,ap,hw,-List.length_append,-List.map_append]
  refine head_of ?_
  rw [FH_cut hlow (by simp [junkAll,lowFr,low]; omega)]
  simpa [junkAll,Nat.add_assoc,Nat.add_comm 1 k] using ih
theorem files_ok {G : Gam} (hN : G Fn.q31 = some (.gen F_rdNum)) (hT : G Fn.q40 = some (.gen F_rdText)) : ∀ args h r h',lowL h.length args = true → lowH h.length h = true → F_files args h = some (r,h') →
  wpM G Mc.q82 (genLQ h.length Rs.q82 r h') [] (frInit Ks.q82 args) h := by
 intro args h r h' hlw hlow hF
 unfold F_files at hF
 split at hF
 ·rename_i l
  split at hF
  ·rename_i tg s er hh
   split at hF
   ·rename_i hsz
    simp only [Option.some.injEq,Prod.mk.injEq] at hF; obtain ⟨rfl,rfl⟩ := hF
    have hl : l < h.length := (List.getElem?_eq_some_iff.1 hh).1
    obtain ⟨n,r0,e0⟩ : ∃ n r0,rdNum 0 64 ⟨s,er⟩ = (n,r0) := ⟨_,_,rfl⟩
    have hr0 : r0.rest.length ≤ 1000000 := by have := rdNum_bound (lo := 0) (hi := 64) (e := er) hsz; rw [e0] at this; exact this
    have hrg := rdNum_range (r := ⟨s,er⟩)
    rw [e0] at hrg
    obtain ⟨k,rfl⟩ : ∃ k : Nat,n = k := ⟨n.toNat,by simp at hrg; omega⟩
    have cN : opV G false (h ++ [.arr 2 0 [] true,.arr 2 0 [] true]) (.call Fn.q31) (some [.ptr l 0,.int .i64 0,.int .i64 64]) = some (.int .i64 k,FH h l tg r0 [] []) := by
     rw [op_call_gen hN]
     unfold F_rdNum
     have hg : (h ++ [Blk.arr 2 0 [] true,.arr 2 0 [] true])[l]? = some (.cellsT tg [.str s,.int .i64 er]) := by
      rw [List.getElem?_append_left hl]; exact hh
     simp only [hg]
     rw [if_pos hsz,e0]
     simp only [FH]
     rw [List.set_append_left _ _ hl]
     rfl
    have ih := files_L0 G hT hl hlow k 0 k r0 [] (by omega) (by simp at hrg; omega) rfl hr0 (tg := tg)
    have hfe : filesE ⟨s,er⟩ = readN k r0 := by unfold filesE; rw [e0]; simp
    rw [hfe,wpM_go]
    have hlen : (FH h l tg r0 [] []).length = h.length + 2 := by rw [FH_len]; rfl
    simp [Mc.q82,frInit,Ks.q82,cN]
    refine head_of ?_
    rw [hlen,FH_cut hlow (by simp [junkAll,lowFr,low]; omega)]
    simpa [junkAll] using ih
   ·cases hF
  ·cases hF
 ·cases hF
end Go.Proofs.YtaadifodgahnjaaGreatDoor
namespace Go.Proofs.YtaadifodgahnjaaGreatDoor
open Go.RowKit Go.IntWalk
theorem unpack_L0 (G : Gam) (hT : G Fn.q23 = some (.gen F_rdText)) {h : Heap} {l : Nat} {tg : Option TypeId} (hl : l < h.length) (hlow : lowH h.length h = true) :
  ∀ (k i n : Nat) (r : Rd) (ts : List Touch),n = i + k → n ≤ 64 → ts.length = i → r.rest.length ≤ 1000000 →
  headM G [6] Mc.q47_L0 (h.length + 2) [.blk 0,.seq (.seq (.reg [⟨none,some 30,false,.mv,[.t 3]⟩,⟨none,some 2,true,.mv,[.t 30]⟩]) .ret)] (genLQ h.length Rs.q47 (.own (h.length + 1) (ts ++ (readS k r).1).length (ts ++ (readS k r).1).length) (FH h l tg (readS k r).2 (ts ++ (readS k r).1) []))
   [(0,.ptr l 0),(2,.own h.length 0 0),(3,.own (h.length + 1) ts.length ts.length),(4,.int .i64 n),(5,.int .i64 i),(6,.junk)] (FH h l tg r ts [])
 | 0,i,n,r,ts,hn,hk,hi,hr => by
  have q : ltB (i : Int) (n : Int) = false := ltB_not.2 (by omega)
  simp only [readS,List.append_nil]
  refine head_go (Mc.q47_L0.eq_1) ?_
  rw [FH_cut hlow (by simp [junkAll,lowFr,low]; omega)]
  simp [junkAll,q,genLQ]
  exact FH_fin hlow (by simp [resAV,resL,resOne,Rs.q47,getT,lkp])
 | k + 1,i,n,r,ts,hn,hk,hi,hr => by
  have q : ltB (i : Int) (n : Int) = true := ltB_iff.2 (by omega)
  refine head_go (Mc.q47_L0.eq_1) ?_
  rw [FH_cut hlow (by simp [junkAll,lowFr,low]; omega)]
  by_cases he : r.err = 0
  ·have hw := wrap1 (i := i) (by unfold big; omega)
   obtain ⟨p,r1,e1⟩ : ∃ p r1,rdText 128 r = (p,r1) := ⟨_,_,rfl⟩
   have hr1 : r1.rest.length ≤ 1000000 := by have := rdText_bound (most := 128) (e := r.err) hr; rw [e1] at this; exact this
   obtain ⟨d,r2,e2⟩ : ∃ d r2,rdText 65536 r1 = (d,r2) := ⟨_,_,rfl⟩
   have hr2 : r2.rest.length ≤ 1000000 := by have := rdText_bound (most := 65536) (e := r1.err) hr1; rw [e2] at this; exact this
   have c1 := FH_text (G := G) (h := h) (x := []) (tg := tg) (ts := ts) hT hl hr 128
   rw [e1] at c1
   have c2 := FH_text (G := G) (h := h) (x := []) (tg := tg) (ts := ts) hT hl hr1 65536
   rw [e2] at c2
   have ap := FH_apps (G := G) (h := h) (l := l) (tg := tg) (r := r2) (x := []) (ts := ts) (by unfold big; omega) ⟨p,d⟩
   simp only [Touch.row] at ap
   have ih := unpack_L0 G hT hl hlow k (i + 1) n r2 (ts ++ [⟨p,d⟩]) (by omega) hk (by simp [hi]) hr2 (tg := tg)
   simp only [readS,e1,e2,he,ne_eq,not_true_eq_false,if_false]
   simp [junkAll,q,FH_rd hl,rdBlk,cut,mkVal,he,c1,bldAV,AV.cells,setAt,c2,ownsL,owns,viewL,view,sizesOk,onesOk,oneC,ap,hw,-List.length_append,-List.map_append]
   refine head_of ?_
   rw [FH_cut hlow (by simp [junkAll,lowFr,low]; omega)]
   simpa [junkAll,Nat.add_assoc,Nat.add_comm 1 k] using ih
  ·have qe : eqB r.err 0 = false := eqB_not.2 he
   simp only [readS,ne_eq,he,not_false_eq_true,if_true,List.append_nil]
   simp [junkAll,q,FH_rd hl,rdBlk,cut,mkVal,qe,genLQ]
   exact FH_fin hlow (by simp [resAV,resL,resOne,Rs.q47,getT,lkp])
theorem unpack_ok {G : Gam} (hN : G Fn.q20 = some (.gen F_rdNum)) (hT : G Fn.q23 = some (.gen F_rdText)) : ∀ args h r h',lowL h.length args = true → lowH h.length h = true → F_unpack args h = some (r,h') →
  wpM G Mc.q47 (genLQ h.length Rs.q47 r h') [] (frInit Ks.q47 args) h := by
 intro args h r h' hlw hlow hF
 unfold F_unpack at hF
 split at hF
 ·rename_i l
  split at hF
  ·rename_i tg s er hh
   split at hF
   ·rename_i hsz
    simp only [Option.some.injEq,Prod.mk.injEq] at hF; obtain ⟨rfl,rfl⟩ := hF
    have hl : l < h.length := (List.getElem?_eq_some_iff.1 hh).1
    obtain ⟨n,r0,e0⟩ : ∃ n r0,rdNum 0 64 ⟨s,er⟩ = (n,r0) := ⟨_,_,rfl⟩
    have hr0 : r0.rest.length ≤ 1000000 := by have := rdNum_bound (lo := 0) (hi := 64) (e := er) hsz; rw [e0] at this; exact this
    have hrg := rdNum_range (r := ⟨s,er⟩)
    rw [e0] at hrg
    obtain ⟨k,rfl⟩ : ∃ k : Nat,n = k := ⟨n.toNat,by simp at hrg; omega⟩
    have cN : opV G false (h ++ [.arr 2 0 [] true,.arr 2 0 [] true]) (.call Fn.q20) (some [.ptr l 0,.int .i64 0,.int .i64 64]) = some (.int .i64 k,FH h l tg r0 [] []) := by
     rw [op_call_gen hN]
     unfold F_rdNum
     have hg : (h ++ [Blk.arr 2 0 [] true,.arr 2 0 [] true])[l]? = some (.cellsT tg [.str s,.int .i64 er]) := by
      rw [List.getElem?_append_left hl]; exact hh
     simp only [hg]
     rw [if_pos hsz,e0]
     simp only [FH]
     rw [List.set_append_left _ _ hl]
     rfl
    have ih := unpack_L0 G hT hl hlow k 0 k r0 [] (by omega) (by simp at hrg; omega) rfl hr0 (tg := tg)
    have hfe : filesS ⟨s,er⟩ = readS k r0 := by unfold filesS; rw [e0]; simp
    rw [hfe,wpM_go]
    have hlen : (FH h l tg r0 [] []).length = h.length + 2 := by rw [FH_len]; rfl
    simp [Mc.q47,frInit,Ks.q47,cN]
    refine head_of ?_
    rw [hlen,FH_cut hlow (by simp [junkAll,lowFr,low]; omega)]
    simpa [junkAll] using ih
   ·cases hF
  ·cases hF
 ·cases hF
def encBun (b : Bun) : AV := .agg [.str b.man,.sl (touchRows b.pap),.sl (touchRows b.src)]
def F_Unpack : List AV → Option AV
 | [.str s] => if s.length ≤ 1000000 then some (.tup [encBun (unpackE s).1,.int .i64 (unpackE s).2]) else none
 | _ => none
theorem rdText_path {r : Rd} : (rdText 128 r).1.length ≤ 128 := by
 unfold rdText
 split
 ·simp
 ·split
  ·split
   ·simp
   ·split
    ·simp
    ·split
     ·simp
     ·rename_i h; simp only [Int.not_lt] at h
      simp only [List.length_take]; omega
  ·simp
  ·simp
theorem readN_paths : ∀ (n : Nat) (r : Rd),∀ f ∈ (readN n r).1,f.path.length ≤ 128
 | 0,_,f,hf => by simp [readN] at hf
 | n + 1,r,f,hf => by
  simp only [readN] at hf
  rcases List.mem_cons.1 hf with rfl | hf
  ·exact rdText_path
  ·exact readN_paths n _ f hf
theorem readS_paths : ∀ (n : Nat) (r : Rd),∀ f ∈ (readS n r).1,f.path.length ≤ 128
 | 0,_,f,hf => by simp [readS] at hf
 | n + 1,r,f,hf => by
  simp only [readS] at hf
  split at hf
  ·simp at hf
  ·rcases List.mem_cons.1 hf with rfl | hf
   ·exact rdText_path
   ·exact readS_paths n _ f hf
theorem check_rows {t : List Touch} (ht : ∀ f ∈ t,f.path.length ≤ 128) : F_treeCheck [.sl (touchRows t)] = some (.int .i64 (treeE t)) := by
 unfold F_treeCheck
 simp only [dec_touchRows]
 rw [if_pos]
 rw [List.all_eq_true]
 intro f hf
 have := ht f hf
 simp; omega
theorem filesE_bound {r : Rd} (h : r.rest.length ≤ 1000000) : (filesE r).2.rest.length ≤ 1000000 := by
 unfold filesE
 have h1 : (rdNum 0 64 r).2.rest.length ≤ 1000000 := rdNum_bound (e := r.err) h
 generalize (rdNum 0 64 r).1.toNat = n
 generalize (rdNum 0 64 r).2 = q at h1
 induction n generalizing q with
 | zero => exact h1
 | succ n ih =>
  simp only [readN]
  exact ih _ (rdText_bound (e := (rdText 128 q).2.err) (rdText_bound (e := q.err) h1))
theorem filesS_bound {r : Rd} (h : r.rest.length ≤ 1000000) : (filesS r).2.rest.length ≤ 1000000 := by rw [← (filesE_S r).1]; exact filesE_bound h
end Go.Proofs.YtaadifodgahnjaaGreatDoor
namespace Go.Proofs.YtaadifodgahnjaaGreatDoor
open Go.RowKit Go.IntWalk
instance : DecidableEq Touch := fun a b => decidable_of_iff (a.path = b.path ∧ a.dig = b.dig) (by cases a; cases b; simp)
instance : DecidableEq Bun := fun a b => decidable_of_iff (a.man = b.man ∧ a.pap = b.pap ∧ a.src = b.src) (by cases a; cases b; simp)
def F_Same03 : List AV → Option AV
 | [.sl a,.sl b] => match decAll decTouch a,decAll decTouch b with
  | some s,some t => if s.length < big then some (.bool (decide (s = t))) else none
  | _,_ => none
 | _ => none
theorem same03_L0 (G : Gam) (s t : List Touch) (hb : s.length < big) (hl : s.length = t.length) : ∀ (k i : Nat),i + k = s.length → s.take i = t.take i →
  headM G [5] Mc.q69_L0 0 [.blk 0,.seq (.seq (.reg [⟨none,some 4,true,.mv,[.c (.bool true)]⟩]) .ret)] (pureQ Rs.q69 (.bool (decide (s = t))))
   [(0,.sl (touchRows s)),(1,.sl (touchRows t)),(4,.bool false),(5,.junk),(12,.int .i64 s.length),(13,.int .i64 i)] []
 | 0,i,hi,ht => by
  have e : i = s.length := by omega
  subst e
  have q : ltB (s.length : Int) (s.length : Int) = false := ltB_not.2 (by omega)
  have est : s = t := by
   rw [List.take_length] at ht
   rw [hl,List.take_length] at ht
   exact ht
  refine head_go (Mc.q69_L0.eq_1) ?_
  rw [vtrunc_len (n := 0) rfl]
  simp [junkAll,est,pureQ,Rs.q69]
 | k + 1,i,hi,ht => by
  have q : ltB (i : Int) (s.length : Int) = true := ltB_iff.2 (by omega)
  have hw := wrap1 (i := i) (by omega)
  obtain ⟨f,hf⟩ : ∃ f,s[i]? = some f := ⟨_,List.getElem?_eq_getElem (by omega)⟩
  obtain ⟨g,hg⟩ : ∃ g,t[i]? = some g := ⟨_,List.getElem?_eq_getElem (by omega)⟩
  have r1 := touchRows_get hf
  have r2 := touchRows_get hg
  have i1 : ∀ st h,opV G st h (.iadr 2) (some [.sl (touchRows s),.int .i64 i]) = some (.fptr [.str f.path,.str f.dig] 0,h) := fun st h => by
   rw [opV_quiet rfl]; simp [evalPure,iadrAV,r1]
  have i2 : ∀ st h,opV G st h (.iadr 2) (some [.sl (touchRows t),.int .i64 i]) = some (.fptr [.str g.path,.str g.dig] 0,h) := fun st h => by
   rw [opV_quiet rfl]; simp [evalPure,iadrAV,r2]
  refine head_go (Mc.q69_L0.eq_1) ?_
  rw [vtrunc_len (n := 0) rfl]
  by_cases e : f = g
  ·subst e
   have ih := same03_L0 G s t hb hl k (i + 1) (by omega) (by rw [List.take_add_one,List.take_add_one,hf,hg,ht])
   simp [junkAll,q,i1,i2,cut,mkVal,eqCells,hw]
   refine head_of ?_
   rw [vtrunc_len (n := 0) rfl]
   simpa [junkAll] using ih
  ·have hne : s ≠ t := fun h => e (by subst h; rw [hf] at hg; injection hg)
   have hc : ¬ (f.path = g.path ∧ f.dig = g.dig) := fun h => e (by cases f; cases g; simp at h; simp [h])
   by_cases c1 : f.path = g.path
   ·have c2 : f.dig ≠ g.dig := fun h => hc ⟨c1,h⟩
    simp [junkAll,q,i1,i2,cut,mkVal,eqCells,c1,c2,hne,pureQ,Rs.q69]
   ·simp [junkAll,q,i1,i2,cut,mkVal,eqCells,c1,hne,pureQ,Rs.q69]
theorem Same03_ok {G : Gam} : ∀ args r,F_Same03 args = some r → wpM G Mc.q69 (pureQ Rs.q69 r) [] (frInit Ks.q69 args) [] := by
 intro args r hF
 unfold F_Same03 at hF
 split at hF
 ·rename_i a b
  split at hF
  ·rename_i s t hs ht
   split at hF
   ·rename_i hb
    injection hF with hF; subst hF
    obtain rfl : a = touchRows s := decAll_of (fun r x => decTouch_of) hs
    obtain rfl : b = touchRows t := decAll_of (fun r x => decTouch_of) ht
    rw [wpM_go]
    by_cases hl : s.length = t.length
    ·have q : eqB (s.length : Int) (t.length : Int) = true := eqB_iff.2 (by omega)
     have ih := same03_L0 G s t hb hl s.length 0 (by omega) rfl
     simp [Mc.q69,frInit,Ks.q69,lenAV,q]
     refine head_of ?_
     simpa [junkAll,vtrunc_len (n := 0) (h := []) rfl] using ih
    ·have q : eqB (s.length : Int) (t.length : Int) = false := eqB_not.2 (by omega)
     have hne : s ≠ t := fun h => hl (by rw [h])
     simp [Mc.q69,frInit,Ks.q69,lenAV,q,hne,pureQ,Rs.q69]
   ·cases hF
  ·cases hF
 ·cases hF
def decBun : AV → Option Bun
 | .agg [.str m,.sl p,.sl q] => match decAll decTouch p,decAll decTouch q with
  | some p,some q => some ⟨m,p,q⟩
  | _,_ => none
 | _ => none
theorem decBun_enc (b : Bun) : decBun (encBun b) = some b := by simp [decBun,encBun]
theorem decBun_of {v : AV} {b : Bun} (h : decBun v = some b) : v = encBun b := by
 unfold decBun at h
 split at h
 ·split at h
  ·rename_i m p q p' q' hp hq
   injection h with h; subst h
   obtain rfl := decAll_of (fun r x => decTouch_of) hp
   obtain rfl := decAll_of (fun r x => decTouch_of) hq
   rfl
  ·cases h
 ·cases h
def F_SameB : List AV → Option AV
 | [a,b] => match decBun a,decBun b with
  | some s,some t => if s.pap.length < big ∧ s.src.length < big then some (.bool (decide (s = t))) else none
  | _,_ => none
 | _ => none
theorem SameB_ok {G : Gam} (hS : G Fn.q69 = some (.pure F_Same03)) : ∀ args r,F_SameB args = some r → wpM G Mc.q65 (pureQ Rs.q65 r) [] (frInit Ks.q65 args) [] := by
 intro args r hF
 unfold F_SameB at hF
 split at hF
 ·rename_i a b
  split at hF
  ·rename_i s t hs ht
   split at hF
   ·rename_i hb
    injection hF with hF; subst hF
    obtain rfl := decBun_of hs
    obtain rfl := decBun_of ht
    have k1 : ∀ st h,opV G st h (.call Fn.q69) (some [.sl (touchRows s.pap),.sl (touchRows t.pap)]) = some (.bool (decide (s.pap = t.pap)),h) := fun st h => op_call hS (us := [.sl (touchRows s.pap),.sl (touchRows t.pap)]) rfl (by simp [F_Same03,hb.1]) (.inl rfl)
    have k2 : ∀ st h,opV G st h (.call Fn.q69) (some [.sl (touchRows s.src),.sl (touchRows t.src)]) = some (.bool (decide (s.src = t.src)),h) := fun st h => op_call hS (us := [.sl (touchRows s.src),.sl (touchRows t.src)]) rfl (by simp [F_Same03,hb.2]) (.inl rfl)
    have e : decide (s = t) = (decide (s.man = t.man) && (decide (s.pap = t.pap) && decide (s.src = t.src))) := by
     cases s; cases t; simp
    have ld : ∀ (k : Nat) (m : Bs) (p q : List Touch),True := fun _ _ _ _ => trivial
    rw [e,wpM_go]
    by_cases c1 : s.man = t.man
    ·have b1 : binAV .eql (.str s.man) (.str t.man) = some (.bool true) := by simp [binAV,strBin,c1]
     by_cases c2 : s.pap = t.pap
     ·simp only [c2,decide_true] at k1
      simp [Mc.q65,frInit,Ks.q65,encBun,loadAV,cut,mkVal,k1,k2,c1,c2,pureQ,Rs.q65]
     ·simp [Mc.q65,frInit,Ks.q65,encBun,loadAV,cut,mkVal,k1,c1,c2,pureQ,Rs.q65]
    ·have b1 : binAV .eql (.str s.man) (.str t.man) = some (.bool false) := by simp [binAV,strBin,c1]
     simp [Mc.q65,frInit,Ks.q65,encBun,loadAV,cut,mkVal,b1,c1,pureQ,Rs.q65]
   ·cases hF
  ·cases hF
 ·cases hF
def fewFrom (most : Int) : List Touch → Int → Bool
 | [],_ => true
 | f :: r,n => if 300 < f.path.length then false else if most < n + f.dig.length then false else fewFrom most r (n + f.dig.length)
def fewT (files size : Int) (t : List Touch) : Bool := if files < t.length then false else fewFrom size t 0
def F_Few03 : List AV → Option AV
 | [.sl a,.int .i64 n,.int .i64 m] => match decAll decTouch a with
  | some t => if t.length < big ∧ (t.all fun f => decide (f.dig.length ≤ 4294967296)) = true ∧ m ≤ 4294967296 ∧ n ≤ 1000 then some (.bool (fewT n m t)) else none
  | none => none
 | _ => none
theorem few03_L0 (G : Gam) (t : List Touch) (files size : Int) (hf : files ≤ 1000) (hs : size ≤ 4294967296) (hb : t.length < big) (hd : ∀ f ∈ t,f.dig.length ≤ 4294967296) : ∀ (rest : List Touch) (i : Nat) (n : Int),t.drop i = rest → 0 ≤ n → n ≤ 4294967296 ∨ n = 0 → fewFrom size rest n = fewFrom size t 0 →
  headM G [9] Mc.q73_L0 0 [.blk 0,.seq (.seq (.reg [⟨none,some 6,true,.mv,[.c (.bool true)]⟩]) .ret)] (pureQ Rs.q73 (.bool (fewFrom size t 0)))
   [(0,.sl (touchRows t)),(1,.int .i64 files),(2,.int .i64 size),(6,.bool false),(7,.int .i64 n),(9,.junk),(14,.sl (touchRows t)),(15,.int .i64 t.length),(16,.int .i64 i)] []
 | [],i,n,hd',h0,hn,hr => by
  have hi := drop_nil hd'
  have q : ltB (i : Int) (t.length : Int) = false := ltB_not.2 (by omega)
  rw [← hr]
  refine head_go (Mc.q73_L0.eq_1) ?_
  rw [vtrunc_len (n := 0) rfl]
  simp [junkAll,q,fewFrom,pureQ,Rs.q73]
 | f :: rest,i,n,hd',h0,hn,hr => by
  obtain ⟨hlt,hx,hxd⟩ := drop_cons hd'
  have q : ltB (i : Int) (t.length : Int) = true := ltB_iff.2 (by omega)
  have hw := wrap1 (i := i) (by omega)
  have r1 := touchRows_get hx
  have i1 : ∀ st h,opV G st h (.iadr 2) (some [.sl (touchRows t),.int .i64 i]) = some (.fptr [.str f.path,.str f.dig] 0,h) := fun st h => by
   rw [opV_quiet rfl]; simp [evalPure,iadrAV,r1]
  have hfd := hd f (List.mem_of_getElem? hx)
  have wn : IntKind.i64.wrap (n + (f.dig.length : Int)) = n + (f.dig.length : Int) := i64_in _ ⟨by omega,by omega⟩
  refine head_go (Mc.q73_L0.eq_1) ?_
  rw [vtrunc_len (n := 0) rfl]
  by_cases c1 : 300 < f.path.length
  ·have q1 : ltB 300 (f.path.length : Int) = true := ltB_iff.2 (by omega)
   rw [← hr]
   simp [junkAll,q,i1,cut,mkVal,stAV,AV.cells,oneC,setAt,loadAV,lenAV,wn,q1,fewFrom,c1,pureQ,Rs.q73]
  ·have q1 : ltB 300 (f.path.length : Int) = false := ltB_not.2 (by omega)
   by_cases c2 : size < n + f.dig.length
   ·have q2 : ltB size (n + (f.dig.length : Int)) = true := ltB_iff.2 c2
    rw [← hr]
    simp [junkAll,q,i1,cut,mkVal,stAV,AV.cells,oneC,setAt,loadAV,lenAV,wn,q1,q2,fewFrom,c1,c2,pureQ,Rs.q73]
   ·have q2 : ltB size (n + (f.dig.length : Int)) = false := ltB_not.2 (by omega)
    rw [fewFrom,if_neg c1,if_neg c2] at hr
    have ih := few03_L0 G t files size hf hs hb hd rest (i + 1) (n + f.dig.length) hxd (by omega) (.inl (by omega)) hr
    simp [junkAll,q,i1,cut,mkVal,stAV,AV.cells,oneC,setAt,loadAV,lenAV,wn,q1,q2,hw]
    refine head_of ?_
    have tr : ∀ fr x,lowFr 0 fr = true → trunc 0 fr [x] = [] := fun fr x hfr => by unfold trunc; simp [hfr,lowH]
    rw [tr _ _ (by simp [junkAll,lowFr,low])]
    simpa [junkAll] using ih
theorem Few03_ok {G : Gam} : ∀ args r,F_Few03 args = some r → wpM G Mc.q73 (pureQ Rs.q73 r) [] (frInit Ks.q73 args) [] := by
 intro args r hF
 unfold F_Few03 at hF
 split at hF
 ·rename_i a n m
  split at hF
  ·rename_i t ht
   split at hF
   ·rename_i hb
    injection hF with hF; subst hF
    obtain ⟨b1,b2,b3,b4⟩ := hb
    obtain rfl : a = touchRows t := decAll_of (fun r x => decTouch_of) ht
    rw [wpM_go]
    unfold fewT
    by_cases c : n < t.length
    ·have q : ltB n (t.length : Int) = true := ltB_iff.2 c
     rw [if_pos c]
     simp [Mc.q73,frInit,Ks.q73,lenAV,q,pureQ,Rs.q73]
    ·have q : ltB n (t.length : Int) = false := ltB_not.2 (by omega)
     rw [if_neg c]
     have ih := few03_L0 G t n m b4 b3 b1 (by simpa using b2) t 0 0 rfl (by omega) (.inr rfl) rfl
     simp [Mc.q73,frInit,Ks.q73,lenAV,q]
     refine head_of ?_
     simpa [junkAll,vtrunc_len (n := 0) (h := []) rfl] using ih
   ·cases hF
  ·cases hF
 ·cases hF
def fewB (b : Bun) : Bool := decide (b.man.length ≤ 20000) && (fewT 30 8000 b.pap && fewT 30 8000 b.src)
def F_FewB : List AV → Option AV
 | [a] => match decBun a with
  | some b => if b.pap.length < big ∧ b.src.length < big ∧ (b.pap.all fun f => decide (f.dig.length ≤ 4294967296)) = true ∧ (b.src.all fun f => decide (f.dig.length ≤ 4294967296)) = true then some (.bool (fewB b)) else none
  | none => none
 | _ => none
theorem FewB_ok {G : Gam} (hS : G Fn.q73 = some (.pure F_Few03)) : ∀ args r,F_FewB args = some r → wpM G Mc.q39 (pureQ Rs.q39 r) [] (frInit Ks.q39 args) [] := by
 intro args r hF
 unfold F_FewB at hF
 split at hF
 ·rename_i a
  split at hF
  ·rename_i b hd
   split at hF
   ·rename_i hb
    injection hF with hF; subst hF
    obtain ⟨b1,b2,b3,b4⟩ := hb
    obtain rfl := decBun_of hd
    have k1 : ∀ st h,opV G st h (.call Fn.q73) (some [.sl (touchRows b.pap),.int .i64 30,.int .i64 8000]) = some (.bool (fewT 30 8000 b.pap),h) := fun st h => op_call hS (us := [.sl (touchRows b.pap),.int .i64 30,.int .i64 8000]) rfl (by simp only [F_Few03,dec_touchRows]; rw [if_pos ⟨b1,b3,by omega,by omega⟩]) (.inl rfl)
    have k2 : ∀ st h,opV G st h (.call Fn.q73) (some [.sl (touchRows b.src),.int .i64 30,.int .i64 8000]) = some (.bool (fewT 30 8000 b.src),h) := fun st h => op_call hS (us := [.sl (touchRows b.src),.int .i64 30,.int .i64 8000]) rfl (by simp only [F_Few03,dec_touchRows]; rw [if_pos ⟨b2,b4,by omega,by omega⟩]) (.inl rfl)
    rw [wpM_go]
    unfold fewB
    by_cases c1 : b.man.length ≤ 20000
    ·have q1 : ltB 20000 (b.man.length : Int) = false := ltB_not.2 (by omega)
     cases c2 : fewT 30 8000 b.pap with
     | true => simp [Mc.q39,frInit,Ks.q39,encBun,loadAV,cut,mkVal,lenAV,q1,k1,k2,c1,c2,pureQ,Rs.q39]
     | false => simp [Mc.q39,frInit,Ks.q39,encBun,loadAV,cut,mkVal,lenAV,q1,k1,c1,c2,pureQ,Rs.q39]
    ·have q1 : ltB 20000 (b.man.length : Int) = true := ltB_iff.2 (by omega)
     simp [Mc.q39,frInit,Ks.q39,encBun,loadAV,cut,mkVal,lenAV,q1,c1,pureQ,Rs.q39]
   ·cases hF
  ·cases hF
 ·cases hF
end Go.Proofs.YtaadifodgahnjaaGreatDoor
