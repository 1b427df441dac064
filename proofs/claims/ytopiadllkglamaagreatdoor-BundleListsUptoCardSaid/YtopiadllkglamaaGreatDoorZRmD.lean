/- slices.IndexFunc and ContainsFunc,at this program's types: by program. Parts of paths: cmp.Less,slices.IsSorted,tree.part and what it calls. Paths: tree.part,tree.Path,and the reference's. Touche -/
import Derived.Test.YtopiadllkglamaaGreatDoorZRecMc
import Derived.Test.YtopiadllkglamaaGreatDoorZAm10
import Derived.Test.YtopiadllkglamaaGreatDoorZRmA
import Derived.Test.YtopiadllkglamaaGreatDoorZAm1
namespace Go.Proofs.YtopiadllkglamaaGreatDoor
open Go.RowKit Go.IntWalk
theorem idxf_loop_slices_IndexFunc_api_Tree_api_File_ (G : Gam) (h : Heap) (rows : List (List AV)) (f : FuncId) (caps : List AV) (hb : rows.length ≤ big) : ∀ (rest : List (List AV)) (i : Nat) (v : Int),rows.drop i = rest → findA (fun row => if row.length = 2 then (mkVal true 2 row).bind (ask G h f caps) else none) i rest = some v →
  headM G [5] Mc.q15_L0 h.length [.blk 0,.seq (.seq (.reg [⟨none,some 4,true,.mv,[.c (.int .i64 (-1))]⟩]) .ret)] (lookQ Rs.q15 (.int .i64 v) h)
  [(0,.sl rows),(1,.fn f caps),(4,.int .i64 0),(5,.junk),(7,.int .i64 rows.length),(8,.int .i64 i)] h
 | [],i,v,hd,hv => by
  have hi := drop_nil hd
  have hi' : ¬ (i : Int) < rows.length := by omega
  simp only [findA,Option.some.injEq] at hv; subst hv
  refine head_go (Mc.q15_L0.eq_1) ?_
  simp [ltB,hi',lookQ,Rs.q15,owns,freezeAll]
 | x :: rest,i,v,hd,hv => by
  obtain ⟨hi,hx,hxd⟩ := drop_cons hd
  have hi' : (i : Int) < rows.length := by omega
  have hw := wrap1 (i := i) (by omega)
  by_cases hl : x.length = 2
  ·simp only [findA,hl,if_true] at hv
   cases hm : mkVal true 2 x with
   | none => simp [hm] at hv
   | some a =>
    simp only [hm,Option.bind_some] at hv
    have hcut : mkVal true 2 (cut x 0 2) = some a := by rw [cut_all hl]; exact hm
    cases ha : ask G h f caps a with
    | none => simp [ha] at hv
    | some b =>
     have hc := ask_call ha
     simp only [ha] at hv
     refine head_go (Mc.q15_L0.eq_1) ?_
     cases b with
     | true =>
      simp only [Option.some.injEq] at hv; subst hv
      simp [ltB,hi',iadr_sl hx hl,hcut,hc,lookQ,Rs.q15,owns,freezeAll]
     | false =>
      simp [ltB,hi',iadr_sl hx hl,hcut,hc,hw]
      refine head_of ?_
      have ih := idxf_loop_slices_IndexFunc_api_Tree_api_File_ G h rows f caps hb rest (i + 1) v hxd hv
      simpa using ih
  ·simp [findA,hl] at hv
theorem idxf_ok_slices_IndexFunc_api_Tree_api_File_ (G : Gam) : ∀ args h r,F_IndexFunc true 2 G args h = some r → wpM G Mc.q15 (lookQ Rs.q15 r h) [] (frInit Ks.q15 args) h := by
 intro args h r hF
 obtain ⟨rows,f,caps,v,rfl,hb,hv,rfl⟩ := F_IndexFunc_inv hF
 rw [wpM_go]
 have ih := idxf_loop_slices_IndexFunc_api_Tree_api_File_ G h rows f caps hb rows 0 v rfl hv
 simpa [Mc.q15,frInit,Ks.q15] using ih
theorem contf_ok_slices_ContainsFunc_api_Tree_api_File_ (G G0 : Gam) (hG : G Fn.q15 = some (.gen (lookF (F_IndexFunc true 2 G0)))) : ∀ args h r,F_ContainsFunc true 2 G0 args h = some r → wpM G Mc.q12 (lookQ Rs.q12 r h) [] (frInit Ks.q12 args) h := by
 intro args h r hF
 obtain ⟨rows,f,caps,v,rfl,hb,hv,rfl⟩ := F_ContainsFunc_inv hF
 rw [wpM_go]
 have hc : ∀ h0 : Heap,h0 = h → opV G false h0 (.call Fn.q15) (some [.sl rows,.fn f caps]) = some (.int .i64 v,h0) := fun h0 e => by subst e; rw [op_call_gen hG]; simp [lookF,F_IndexFunc,hb,hv]
 simp [Mc.q12,frInit,Ks.q12,hc,lookQ,Rs.q12,owns,freezeAll]
theorem idxf_loop_slices_IndexFunc___string_string_ (G : Gam) (h : Heap) (rows : List (List AV)) (f : FuncId) (caps : List AV) (hb : rows.length ≤ big) : ∀ (rest : List (List AV)) (i : Nat) (v : Int),rows.drop i = rest → findA (fun row => if row.length = 1 then (mkVal false 1 row).bind (ask G h f caps) else none) i rest = some v →
  headM G [5] Mc.q17_L0 h.length [.blk 0,.seq (.seq (.reg [⟨none,some 4,true,.mv,[.c (.int .i64 (-1))]⟩]) .ret)] (lookQ Rs.q17 (.int .i64 v) h)
  [(0,.sl rows),(1,.fn f caps),(4,.int .i64 0),(5,.junk),(7,.int .i64 rows.length),(8,.int .i64 i)] h
 | [],i,v,hd,hv => by
  have hi := drop_nil hd
  have hi' : ¬ (i : Int) < rows.length := by omega
  simp only [findA,Option.some.injEq] at hv; subst hv
  refine head_go (Mc.q17_L0.eq_1) ?_
  simp [ltB,hi',lookQ,Rs.q17,owns,freezeAll]
 | x :: rest,i,v,hd,hv => by
  obtain ⟨hi,hx,hxd⟩ := drop_cons hd
  have hi' : (i : Int) < rows.length := by omega
  have hw := wrap1 (i := i) (by omega)
  by_cases hl : x.length = 1
  ·simp only [findA,hl,if_true] at hv
   cases hm : mkVal false 1 x with
   | none => simp [hm] at hv
   | some a =>
    simp only [hm,Option.bind_some] at hv
    have hcut : mkVal false 1 (cut x 0 1) = some a := by rw [cut_all hl]; exact hm
    cases ha : ask G h f caps a with
    | none => simp [ha] at hv
    | some b =>
     have hc := ask_call ha
     simp only [ha] at hv
     refine head_go (Mc.q17_L0.eq_1) ?_
     cases b with
     | true =>
      simp only [Option.some.injEq] at hv; subst hv
      simp [ltB,hi',iadr_sl hx hl,hcut,hc,lookQ,Rs.q17,owns,freezeAll]
     | false =>
      simp [ltB,hi',iadr_sl hx hl,hcut,hc,hw]
      refine head_of ?_
      have ih := idxf_loop_slices_IndexFunc___string_string_ G h rows f caps hb rest (i + 1) v hxd hv
      simpa using ih
  ·simp [findA,hl] at hv
theorem idxf_ok_slices_IndexFunc___string_string_ (G : Gam) : ∀ args h r,F_IndexFunc false 1 G args h = some r → wpM G Mc.q17 (lookQ Rs.q17 r h) [] (frInit Ks.q17 args) h := by
 intro args h r hF
 obtain ⟨rows,f,caps,v,rfl,hb,hv,rfl⟩ := F_IndexFunc_inv hF
 rw [wpM_go]
 have ih := idxf_loop_slices_IndexFunc___string_string_ G h rows f caps hb rows 0 v rfl hv
 simpa [Mc.q17,frInit,Ks.q17] using ih
theorem contf_ok_slices_ContainsFunc___string_string_ (G G0 : Gam) (hG : G Fn.q17 = some (.gen (lookF (F_IndexFunc false 1 G0)))) : ∀ args h r,F_ContainsFunc false 1 G0 args h = some r → wpM G Mc.q14 (lookQ Rs.q14 r h) [] (frInit Ks.q14 args) h := by
 intro args h r hF
 obtain ⟨rows,f,caps,v,rfl,hb,hv,rfl⟩ := F_ContainsFunc_inv hF
 rw [wpM_go]
 have hc : ∀ h0 : Heap,h0 = h → opV G false h0 (.call Fn.q17) (some [.sl rows,.fn f caps]) = some (.int .i64 v,h0) := fun h0 e => by subst e; rw [op_call_gen hG]; simp [lookF,F_IndexFunc,hb,hv]
 simp [Mc.q14,frInit,Ks.q14,hc,lookQ,Rs.q14,owns,freezeAll]
end Go.Proofs.YtopiadllkglamaaGreatDoor
namespace Go.Proofs.YtopiadllkglamaaGreatDoor
open Go.RowKit Go.IntWalk
theorem op_nxt {G : Gam} {s : Bool} {h : Heap} {str : Bs} {l pos : Nat} (hl : h[l]? = some (.iter str pos)) : opV G s h .nxt (some [.ptr l 0]) = if pos < str.length then some (.tup [.bool true,.int .i64 pos,.int .i32 (Utf8.decode ⟨str.toArray⟩ pos).1],h.set l (.iter str (pos + (Utf8.decode ⟨str.toArray⟩ pos).2))) else some (.tup [.bool false],h) := by
 rw [opV_eff rfl]; simp only [evalEff,hl]
@[simp] theorem op_rng {G : Gam} {s : Bool} {h : Heap} {str : Bs} : opV G s h .rng (some [.str str]) = some (.ptr h.length 0,h ++ [.iter str 0]) := by rw [opV_eff rfl]; rfl
theorem trunc_len {n : Nat} {fr : List (Nat × AV)} {h : Heap} (hl : h.length = n) : trunc n fr h = h := by subst hl; exact trunc_self
noncomputable def runesA (G : Gam) (h : Heap) (f : FuncId) (caps : List AV) (truth : Bool) (s : Bs) : Nat → Nat → Option Int
 | 0,_ => none
 | n + 1,pos => if pos < s.length then (match ask G (h ++ [.iter s (pos + (Utf8.decode ⟨s.toArray⟩ pos).2)]) f caps (.int .i32 (Utf8.decode ⟨s.toArray⟩ pos).1) with
   | some b => if b = truth then some pos else runesA G h f caps truth s n (pos + (Utf8.decode ⟨s.toArray⟩ pos).2)
   | none => none) else some (-1)
noncomputable def F_indexFunc (G : Gam) : List AV → Heap → Option AV
 | [.str s,.fn f caps,.bool truth],h => (runesA G h f caps truth s (s.length + 1) 0).map (.int .i64)
 | _,_ => none
noncomputable def F_strIndexFunc (G : Gam) : List AV → Heap → Option AV
 | [.str s,.fn f caps],h => (runesA G h f caps true s (s.length + 1) 0).map (.int .i64)
 | _,_ => none
noncomputable def F_strContainsFunc (G : Gam) : List AV → Heap → Option AV
 | [.str s,.fn f caps],h => (runesA G h f caps true s (s.length + 1) 0).map fun i => .bool (!ltB i 0)
 | _,_ => none
theorem indexFunc_loop (G : Gam) (h : Heap) (s : Bs) (f : FuncId) (caps : List AV) (truth : Bool) : ∀ (n pos : Nat) (v : Int),runesA G h f caps truth s n pos = some v →
  headM G [7,8,11] Mc.q42_L0 (h.length + 1) [.blk 0,.seq (.seq (.reg [⟨none,some 6,true,.mv,[.c (.int .i64 (-1))]⟩]) .ret)] (lookQ Rs.q42 (.int .i64 v) h)
  [(0,.str s),(1,.fn f caps),(2,.bool truth),(6,.int .i64 0),(7,.junk),(8,.junk),(10,.ptr h.length 0),(11,.junk)] (h ++ [.iter s pos])
 | 0,pos,v,hv => by simp [runesA] at hv
 | n + 1,pos,v,hv => by
  refine head_go (Mc.q42_L0.eq_1) ?_
  rw [trunc_len (by simp)]
  have hn := fun s' => op_nxt (G := G) (s := s') (h := h ++ [.iter s pos]) (str := s) (l := h.length) (pos := pos) (by simp)
  simp only [runesA] at hv
  by_cases hp : pos < s.length
  ·simp only [hp,if_true] at hv
   cases ha : ask G (h ++ [.iter s (pos + (Utf8.decode ⟨s.toArray⟩ pos).2)]) f caps (.int .i32 (Utf8.decode ⟨s.toArray⟩ pos).1) with
   | none => simp [ha] at hv
   | some b =>
    have hc := ask_call ha
    simp only [ha] at hv
    by_cases hb : b = truth
    ·simp only [hb,if_true,Option.some.injEq] at hv; subst hv hb
     simp [hn,hp,hc,lookQ,Rs.q42,owns,freezeAll]
    ·simp only [hb,if_false] at hv
     have hb' : (b == truth) = false := by simp [hb]
     simp [hn,hp,hc,hb']
     refine head_of ?_
     have ih := indexFunc_loop G h s f caps truth n _ v hv
     rw [trunc_len (by simp)]
     simpa using ih
  ·simp only [hp,if_false,Option.some.injEq] at hv; subst hv
   simp [hn,hp,lookQ,Rs.q42,owns,freezeAll]
theorem indexFunc_ok (G : Gam) : ∀ args h r,F_indexFunc G args h = some r → wpM G Mc.q42 (lookQ Rs.q42 r h) [] (frInit Ks.q42 args) h := by
 intro args h r hF
 match args,hF with
 | [.str s,.fn f caps,.bool truth],hF =>
  simp only [F_indexFunc,Option.map_eq_some_iff] at hF
  obtain ⟨v,hv,rfl⟩ := hF
  rw [wpM_go]
  have ih := indexFunc_loop G h s f caps truth _ 0 v hv
  simpa [Mc.q42,frInit,Ks.q42] using ih
theorem strIndexFunc_ok (G G0 : Gam) (hG : G Fn.q42 = some (.gen (lookF (F_indexFunc G0)))) : ∀ args h r,F_strIndexFunc G0 args h = some r → wpM G Mc.q41 (lookQ Rs.q41 r h) [] (frInit Ks.q41 args) h := by
 intro args h r hF
 match args,hF with
 | [.str s,.fn f caps],hF =>
  simp only [F_strIndexFunc,Option.map_eq_some_iff] at hF
  obtain ⟨v,hv,rfl⟩ := hF
  rw [wpM_go]
  have hc : opV G false h (.call Fn.q42) (some [.str s,.fn f caps,.bool true]) = some (.int .i64 v,h) := by rw [op_call_gen hG]; simp [lookF,F_indexFunc,hv]
  simp [Mc.q41,frInit,Ks.q41,hc,lookQ,Rs.q41,owns,freezeAll]
theorem strContainsFunc_ok (G G0 : Gam) (hG : G Fn.q41 = some (.gen (lookF (F_strIndexFunc G0)))) : ∀ args h r,F_strContainsFunc G0 args h = some r → wpM G Mc.q34 (lookQ Rs.q34 r h) [] (frInit Ks.q34 args) h := by
 intro args h r hF
 match args,hF with
 | [.str s,.fn f caps],hF =>
  simp only [F_strContainsFunc,Option.map_eq_some_iff] at hF
  obtain ⟨v,hv,rfl⟩ := hF
  rw [wpM_go]
  have hc : opV G false h (.call Fn.q41) (some [.str s,.fn f caps]) = some (.int .i64 v,h) := by rw [op_call_gen hG]; simp [lookF,F_strIndexFunc,hv]
  simp [Mc.q34,frInit,Ks.q34,hc,lookQ,Rs.q34,owns,freezeAll]
def pch (n : Int) : Bool := (!ltB n 97 && !ltB 122 n) || (!ltB n 48 && !ltB 57 n) || eqB n 46 || eqB n 95 || eqB n 45
def F_part1 : List AV → Option AV := F1 (eKind .i32) eBool fun n => some (!pch n)
theorem part1_ok (G : Gam) : ∀ args r,F_part1 args = some r → wpM G Mc.tree_part_1 (pureQ Rs.tree_part_1 r) [] (frInit Ks.tree_part_1 args) [] := F1_ok fun x r h => by
 injection h with h; subst h
 rw [wpM_go]
 simp +contextual [Mc.tree_part_1,frInit,Ks.tree_part_1,Rs.tree_part_1,eKind,eBool,pch]
end Go.Proofs.YtopiadllkglamaaGreatDoor
namespace Go.Proofs.YtopiadllkglamaaGreatDoor
open Go.RowKit Go.IntWalk
def partOK : Bs → Bool
 | [] => false
 | c :: r => !ltB 32 ((c :: r).length : Nat) && !eqB c.toNat 46 && !eqB c.toNat 45 && (c :: r).all fun b => pch b.toNat
theorem decode_lo {s : Bs} {i : Nat} {b : UInt8} (hb : s[i]? = some b) (h : b.toNat < 128) : Utf8.decode ⟨s.toArray⟩ i = (b.toNat,1) := by
 have hg : (ByteArray.get! ⟨s.toArray⟩ i) = b := by
  show s.toArray[i]! = b
  simp [getElem!_def,hb]
 unfold Utf8.decode
 simp [hg,h]
theorem decode_hi {s : Bs} {i : Nat} {b : UInt8} (hb : s[i]? = some b) (h : 128 ≤ b.toNat) : 128 ≤ (Utf8.decode ⟨s.toArray⟩ i).1 := by
 have hg : (ByteArray.get! ⟨s.toArray⟩ (i + 0)) = b := by
  show s.toArray[i]! = b
  simp [getElem!_def,hb]
 unfold Utf8.decode
 have h' : ¬ b.toNat < 128 := by omega
 simp only [hg,h',if_false]
 split
 ·split
  ·simpa using ‹_›
  ·decide
 ·split
  ·split
   ·rename_i h3; simp at h3; simp; omega
   ·decide
  ·split
   ·split
    ·rename_i h3; simp at h3; simp; omega
    ·decide
   ·decide
theorem pch_hi {n : Int} (h : 128 ≤ n) : pch n = false := by
 have a1 : ltB 122 n = true := ltB_iff.2 (by omega)
 have a2 : ltB 57 n = true := ltB_iff.2 (by omega)
 have a3 : eqB n 46 = false := eqB_not.2 (by omega)
 have a4 : eqB n 95 = false := eqB_not.2 (by omega)
 have a5 : eqB n 45 = false := eqB_not.2 (by omega)
 simp [pch,a1,a2,a3,a4,a5]
theorem runes_part {G : Gam} (hG : G Fn.tree_part_1 = some (.pure F_part1)) (h : Heap) (s : Bs) : ∀ (n pos : Nat),s.length - pos < n → ∃ v,runesA G h Fn.tree_part_1 [] true s n pos = some v ∧ ltB v 0 = (s.drop pos).all fun b => pch b.toNat
 | 0,pos,hn => by omega
 | n + 1,pos,hn => by
  have hask : ∀ h (x : Int),ask G h Fn.tree_part_1 [] (.int .i32 x) = some (!pch x) := fun h x => ask_of (call_pure hG rfl (F1_use (A := eKind .i32) (R := eBool) (x := x) rfl) rfl)
  simp only [runesA,hask]
  by_cases hp : pos < s.length
  ·obtain ⟨b,hb,hd⟩ := drop_head hp
   simp only [hp,if_true,hd,List.all_cons]
   rcases Nat.lt_or_ge b.toNat 128 with hlo | hhi
   ·rw [decode_lo hb hlo]
    cases hpc : pch b.toNat with
    | true =>
     simp only [Bool.not_true,Bool.false_eq_true,if_false,Bool.true_and]
     exact runes_part hG h s n (pos + 1) (by omega)
    | false => exact ⟨pos,by simp,by simp [ltB_not]⟩
   ·have h1 := pch_hi (n := (Utf8.decode ⟨s.toArray⟩ pos).1) (by have := decode_hi hb hhi; omega)
    have h2 := pch_hi (n := b.toNat) (by omega)
    exact ⟨pos,by simp [h1],by simp [h2,ltB_not]⟩
  ·have : s.drop pos = [] := by rw [List.drop_eq_nil_iff]; omega
   exact ⟨-1,by simp [hp],by rw [this]; rfl⟩
def F_part : List AV → Option AV := F1 eStr eBool fun s => some (partOK s)
theorem part_ok (G G0 : Gam) (hG : G Fn.q34 = some (.gen (lookF (F_strContainsFunc G0)))) (hG0 : G0 Fn.tree_part_1 = some (.pure F_part1)) : ∀ args r,F_part args = some r → wpM G Mc.tree_part (pureQ Rs.tree_part r) [] (frInit Ks.tree_part args) [] := F1_ok fun s r h => by
 injection h with h; subst h
 rw [wpM_go]
 cases s with
 | nil => simp [Mc.tree_part,frInit,Ks.tree_part,Rs.tree_part,eStr,eBool,partOK]
 | cons c r =>
  obtain ⟨v,hv,hl⟩ := runes_part hG0 [] (c :: r) ((c :: r).length + 1) 0 (by omega)
  have hc : opV G false [] (.call Fn.q34) (some [.str (c :: r),.fn Fn.tree_part_1 []]) = some (.bool (!ltB v 0),[]) := by rw [op_call_gen hG]; simp only [lookF,F_strContainsFunc,hv]; rfl
  rw [List.drop_zero] at hl
  cases c1 : ltB 32 ((r.length : Int) + 1) <;> cases c2 : eqB (c.toNat : Int) 46 <;> cases c3 : eqB (c.toNat : Int) 45 <;>
   simp [Mc.tree_part,frInit,Ks.tree_part,Rs.tree_part,eStr,eBool,partOK,hc,hl,-List.all_cons,c1,c2,c3]
def F_Path1 : List AV → Option AV := F1 eStr eBool fun s => some (!partOK s)
theorem Path1_ok (G : Gam) (hG : G Fn.tree_part = some (.pure F_part)) : ∀ args r,F_Path1 args = some r → wpM G Mc.tree_Path_1 (pureQ Rs.tree_Path_1 r) [] (frInit Ks.tree_Path_1 args) [] := F1_ok fun s r h => by
 injection h with h; subst h
 rw [wpM_go]
 have hc : ∀ st h,opV G st h (.call Fn.tree_part) (some [.str s]) = some (.bool (partOK s),h) := fun st h => op_call hG rfl (F1_use (A := eStr) (R := eBool) (x := s) rfl) (.inl rfl)
 simp [Mc.tree_Path_1,frInit,Ks.tree_Path_1,Rs.tree_Path_1,eStr,eBool,hc]
theorem splitBy_len (c : UInt8) : ∀ s,(splitBy c s).length ≤ s.length + 1
 | [] => by simp [splitBy]
 | b :: r => by
  have ih := splitBy_len c r
  unfold splitBy; split
  ·simp; omega
  ·split
   ·rename_i p ps h; rw [h] at ih; simp at ih ⊢; omega
   ·simp
def pathOK (s : Bs) : Bool := !ltB 128 s.length && !ltB 8 (splitBy 47 s).length && (splitBy 47 s).all partOK
def F_Path : List AV → Option AV := F1 eStr eInt fun s => if s.length < 4294967281 then some (if pathOK s then 0 else 2) else none
theorem Path_ok (G G0 : Gam) (hS : G Fn.q67 = some (.pure F_Split)) (hC : G Fn.q14 = some (.gen (lookF (F_ContainsFunc false 1 G0)))) (hG0 : G0 Fn.tree_Path_1 = some (.pure F_Path1)) : ∀ args r,F_Path args = some r → wpM G Mc.tree_Path (pureQ Rs.tree_Path r) [] (frInit Ks.tree_Path args) [] := F1_ok fun s r h => by
 split at h
 ·rename_i hs
  injection h with h; subst h
  rw [wpM_go]
  have h1 : ∀ st h,opV G st h (.call Fn.q67) (some [.str s,.str [47]]) = some (.sl ((splitBy 47 s).map rStr.enc),h) := fun st h => op_call hS rfl (F2_use (A := eStr) (B := eStr) (R := eSl rStr) (x := s) (y := [47]) (by simp only [hs,if_true])) (.inr rfl)
  have h2 := contains_use (h := []) (caps := []) (p := fun x => !partOK x) (f := Fn.tree_Path_1) (e := rStr.enc) (val := .str) (xs := splitBy 47 s) hC (by have := splitBy_len 47 s; unfold big; omega) (fun x => ⟨rfl,rfl⟩) (fun x _ => ask_of (call_pure hG0 rfl (F1_use (A := eStr) (R := eBool) (x := x) rfl) rfl))
  have hall : (splitBy 47 s).any (fun x => !partOK x) = !(splitBy 47 s).all partOK := by rw [List.not_all_eq_any_not]
  rw [hall] at h2
  cases c1 : ltB 128 s.length <;> cases c2 : ltB 8 (splitBy 47 s).length <;> cases c3 : (splitBy 47 s).all partOK <;>
   simp only [c3] at h2 <;> simp [Mc.tree_Path,frInit,Ks.tree_Path,Rs.tree_Path,eStr,eInt,pathOK,h1,h2,c1,c2,c3]
 ·cases h
def preP (cur : Bs) : List Bs → List Bs
 | p :: ps => (cur ++ p) :: ps
 | [] => [cur]
theorem preP_nil (l : List Bs) (h : l ≠ []) : preP [] l = l := by
 cases l with
 | nil => exact absurd rfl h
 | cons p ps => rfl
theorem split_step {c : UInt8} {cur : Bs} {b : UInt8} {r : Bs} (h : b ≠ c) : preP cur (splitBy c (b :: r)) = preP (cur ++ [b]) (splitBy c r) := by
 have hne := splitBy_ne c r
 simp only [splitBy,h,if_false]
 cases hs : splitBy c r with
 | nil => exact absurd hs hne
 | cons p ps => simp [preP]
theorem split_hit {c : UInt8} {cur : Bs} {r : Bs} : preP cur (splitBy c (c :: r)) = cur :: splitBy c r := by simp [splitBy,preP]
end Go.Proofs.YtopiadllkglamaaGreatDoor
namespace Go.Proofs.YtopiadllkglamaaGreatDoor
open Go.RowKit Go.IntWalk
structure Touch where
 path : Bs
 dig : Bs
 deriving DecidableEq,Inhabited
structure Done where
 pkg : Int
 line : Int
 kind : Int
 reads : List Touch
 wrote : Touch
 deriving DecidableEq,Inhabited
def Touch.row (t : Touch) : List AV := [.str t.path,.str t.dig]
def decTouch : List AV → Option Touch
 | [.str p,.str d] => some ⟨p,d⟩
 | _ => none
theorem decTouch_of {row : List AV} {t : Touch} (h : decTouch row = some t) : row = t.row := by
 unfold decTouch at h; split at h
 ·injection h with h; subst h; rfl
 ·cases h
def decAll {α : Type} (dec : List AV → Option α) : List (List AV) → Option (List α)
 | [] => some []
 | r :: rs => match dec r,decAll dec rs with
  | some x,some xs => some (x :: xs)
  | _,_ => none
theorem decAll_of {α : Type} {dec : List AV → Option α} {enc : α → List AV} (h1 : ∀ r x,dec r = some x → r = enc x) : ∀ {rows : List (List AV)} {xs : List α},decAll dec rows = some xs → rows = xs.map enc
 | [],xs,h => by simp [decAll] at h; subst h; rfl
 | r :: rs,xs,h => by
  simp only [decAll] at h
  split at h
  ·rename_i x xs' h2 h3
   injection h with h; subst h
   rw [h1 r x h2,decAll_of h1 h3]; rfl
  ·cases h
theorem decAll_enc {α : Type} {dec : List AV → Option α} {enc : α → List AV} (h1 : ∀ x,dec (enc x) = some x) : ∀ (xs : List α),decAll dec (xs.map enc) = some xs
 | [] => rfl
 | x :: xs => by simp [decAll,h1,decAll_enc h1 xs]
@[simp] theorem decTouch_row (t : Touch) : decTouch t.row = some t := rfl
def touchRows (ts : List Touch) : List (List AV) := ts.map Touch.row
@[simp] theorem touchRows_len {ts : List Touch} : (touchRows ts).length = ts.length := by simp [touchRows]
theorem touchRows_get {ts : List Touch} {i : Nat} {t : Touch} (h : ts[i]? = some t) : (touchRows ts)[i]? = some [.str t.path,.str t.dig] := by simp [touchRows,h,Touch.row]
@[simp] theorem dec_touchRows (ts : List Touch) : decAll decTouch (touchRows ts) = some ts := decAll_enc decTouch_row ts
def Done.row (d : Done) : List AV := [.int .i64 d.pkg,.int .i64 d.line,.int .i64 d.kind,.sl (touchRows d.reads),.str d.wrote.path,.str d.wrote.dig]
def decDone : List AV → Option Done
 | [.int .i64 p,.int .i64 l,.int .i64 k,.sl rows,.str wp,.str wd] => (decAll decTouch rows).map fun ts => ⟨p,l,k,ts,⟨wp,wd⟩⟩
 | _ => none
@[simp] theorem decDone_row (d : Done) : decDone d.row = some d := by simp [decDone,Done.row]
def doneRows (ds : List Done) : List (List AV) := ds.map Done.row
@[simp] theorem doneRows_len {ts : List Done} : (doneRows ts).length = ts.length := by simp [doneRows]
@[simp] theorem dec_doneRows (ts : List Done) : decAll decDone (doneRows ts) = some ts := decAll_enc decDone_row ts
end Go.Proofs.YtopiadllkglamaaGreatDoor
namespace Go.Proofs.YtopiadllkglamaaGreatDoor
open Go.RowKit Go.IntWalk
def belowE (p d : Bs) : Bool := (d ++ [47]).isPrefixOf p
def treeFrom : List Touch → List Touch → Int
 | _,[] => 0
 | pre,f :: r => if pathOK f.path = false then 2 else if 65536 < f.dig.length then 10 else if (pre.getLast?.map fun g => Op.bytesLess g.path f.path) = some false then 5
  else if pre.any (fun g => belowE f.path g.path) then 6 else treeFrom (pre ++ [f]) r
def treeE (t : List Touch) : Int := if 64 < t.length then 10 else treeFrom [] t
def okFile (f : Touch) : Prop := f.path.length ≤ 128 ∧ f.dig.length ≤ 65536
theorem path_len {s : Bs} (h : pathOK s = true) : s.length ≤ 128 := by
 unfold pathOK at h
 simp only [Bool.and_eq_true,Bool.not_eq_true'] at h
 have := h.1.1
 rw [ltB_not] at this
 omega
theorem treeFrom_files : ∀ (t pre : List Touch),treeFrom pre t = 0 → ∀ f ∈ t,okFile f
 | [],_,_,f,hf => by cases hf
 | x :: r,pre,h,f,hf => by
  rw [treeFrom] at h
  split at h
  ·cases h
  ·rename_i hp
   split at h
   ·cases h
   ·rename_i hd
    split at h
    ·cases h
    ·split at h
     ·cases h
     ·rcases List.mem_cons.1 hf with rfl | hf
      ·exact ⟨path_len (by simpa using hp),by omega⟩
      ·exact treeFrom_files r _ h f hf
theorem treeE_files {t : List Touch} (h : treeE t = 0) : t.length ≤ 64 ∧ ∀ f ∈ t,okFile f := by
 unfold treeE at h
 split at h
 ·cases h
 ·exact ⟨by omega,treeFrom_files t [] h⟩
structure Bun where
 man : Bs
 pap : List Touch
 src : List Touch
end Go.Proofs.YtopiadllkglamaaGreatDoor
namespace Go.Proofs.YtopiadllkglamaaGreatDoor
open Go.RowKit Go.IntWalk
def F_HasPrefix : List AV → Option AV
 | [.str s,.str t] => some (.bool (t.isPrefixOf s))
 | _ => none
end Go.Proofs.YtopiadllkglamaaGreatDoor
namespace Go.Proofs.YtopiadllkglamaaGreatDoor
open Go.RowKit Go.IntWalk
def F_below : List AV → Option AV
 | [.str p,.str d] => if d.length < big then some (.bool (belowE p d)) else none
 | _ => none
theorem below_ok {G : Gam} (hP : G Fn.q40 = some (.pure F_HasPrefix)) : ∀ args r,F_below args = some r → wpM G Mc.tree_below (pureQ Rs.tree_below r) [] (frInit Ks.tree_below args) [] := by
 intro args r hF
 unfold F_below at hF
 split at hF
 ·rename_i p d
  split at hF
  ·rename_i hd
   injection hF with hF; subst hF
   have s1 := str_add (a := d) (b := [47]) (by unfold strMax; unfold big at hd; simp; omega)
   have c1 : ∀ st h,opV G st h (.call Fn.q40) (some [.str p,.str (d ++ [47])]) = some (.bool (belowE p d),h) := fun st h => op_call hP (us := [.str p,.str (d ++ [47])]) rfl rfl (.inl rfl)
   rw [wpM_go]
   simp [Mc.tree_below,frInit,Ks.tree_below,s1,c1,pureQ,Rs.tree_below]
  ·cases hF
 ·cases hF
theorem prefix_snoc (c : UInt8) : ∀ (d p : Bs),(d ++ [c]).isPrefixOf p = true ↔ d.length < p.length ∧ p.take d.length = d ∧ p[d.length]? = some c
 | [],[] => by simp
 | [],x :: p => by simp [List.isPrefixOf]; exact ⟨fun h => h.symm,fun h => h.symm⟩
 | y :: d,[] => by simp
 | y :: d,x :: p => by
  have ih := prefix_snoc c d p
  simp only [List.cons_append,List.isPrefixOf,Bool.and_eq_true,beq_iff_eq,ih,List.length_cons,List.take_succ_cons,List.getElem?_cons_succ,List.cons.injEq]
  constructor
  ·rintro ⟨rfl,h1,h2,h3⟩; exact ⟨by omega,⟨rfl,h2⟩,h3⟩
  ·rintro ⟨h1,⟨rfl,h2⟩,h3⟩; exact ⟨rfl,by omega,h2,h3⟩
theorem Below_ok {G : Gam} : ∀ args r,F_below args = some r → wpM G Mc.q47 (pureQ Rs.q47 r) [] (frInit Ks.q47 args) [] := by
 intro args r hF
 unfold F_below at hF
 split at hF
 ·rename_i p d
  split at hF
  ·rename_i hd
   injection hF with hF; subst hF
   rw [wpM_go]
   by_cases h1 : d.length < p.length
   ·have l1 : ltB (d.length : Int) (p.length : Int) = true := ltB_iff.2 (by omega)
    have sl : ∀ st h,opV G st h (.slc none false true false) (some [.str p,.int .i64 (d.length : Int)]) = some (.str (p.take d.length),h) := fun st h => by
     rw [opV_quiet rfl]
     have h1 : (d.length : Int) ≤ (p.length : Int) := by omega
     simp [evalPure,slcArgs,slc1,slcAV,slcStr,h1]
    obtain ⟨c,hc⟩ : ∃ c,p[d.length]? = some c := ⟨_,List.getElem?_eq_getElem h1⟩
    have is : ∀ st h,opV G st h .istr (some [.str p,.int .i64 (d.length : Int)]) = some (.int .u8 c.toNat,h) := fun st h => op_istr hc
    by_cases h2 : p.take d.length = d
    ·have b2 : binAV .eql (.str (p.take d.length)) (.str d) = some (.bool true) := by simp only [binAV,strBin,h2]; simp
     by_cases h3 : c = 47
     ·have e3 : eqB (c.toNat : Int) 47 = true := by subst h3; rfl
      have eb : belowE p d = true := (prefix_snoc 47 d p).2 ⟨h1,h2,by rw [hc,h3]⟩
      rw [eb]
      simp [Mc.q47,frInit,Ks.q47,lenAV,l1,sl,b2,is,e3,pureQ,Rs.q47]
     ·have e3 : eqB (c.toNat : Int) 47 = false := eqB_not.2 fun e => h3 (UInt8.toNat_inj.1 (by simp; omega))
      have eb : belowE p d = false := by
       rw [Bool.eq_false_iff]; intro e
       have := ((prefix_snoc 47 d p).1 e).2.2
       rw [hc] at this; injection this with this; exact h3 this
      rw [eb]
      simp [Mc.q47,frInit,Ks.q47,lenAV,l1,sl,b2,is,e3,pureQ,Rs.q47]
    ·have b2 : binAV .eql (.str (p.take d.length)) (.str d) = some (.bool false) := by simp only [binAV,strBin]; simp [h2]
     have eb : belowE p d = false := by
      rw [Bool.eq_false_iff]; intro e
      exact h2 ((prefix_snoc 47 d p).1 e).2.1
     rw [eb]
     simp [Mc.q47,frInit,Ks.q47,lenAV,l1,sl,b2,pureQ,Rs.q47]
   ·have l1 : ltB (d.length : Int) (p.length : Int) = false := ltB_not.2 (by omega)
    have eb : belowE p d = false := by
     rw [Bool.eq_false_iff]; intro e
     exact h1 ((prefix_snoc 47 d p).1 e).1
    rw [eb]
    simp [Mc.q47,frInit,Ks.q47,lenAV,l1,pureQ,Rs.q47]
  ·cases hF
 ·cases hF
end Go.Proofs.YtopiadllkglamaaGreatDoor
namespace Go.Proofs.YtopiadllkglamaaGreatDoor
open Go.RowKit Go.IntWalk
def F_chk1 : List AV → Heap → Option AV
 | [.agg [.str p,.str _],.ptr l 0],h => match h[l]? with
  | some (.cellsT _ [.str fp,.str _]) => if p.length < big then some (.bool (belowE fp p)) else none
  | _ => none
 | _,_ => none
theorem chk1_ok {G : Gam} (hB : G Fn.tree_below = some (.pure F_below)) : ∀ args h r,F_chk1 args h = some r → wpM G Mc.q73 (lookQ Rs.q73 r h) [] (frInit Ks.q73 args) h := by
 intro args h r hF
 unfold F_chk1 at hF
 split at hF
 ·rename_i p d l
  split at hF
  ·rename_i tg fp fd hh
   split at hF
   ·rename_i hp
    injection hF with hF; subst hF
    have hl : l < h.length := (List.getElem?_eq_some_iff.1 hh).1
    have hh2 : (h ++ [Blk.cells [.str p,.str d]])[l]? = some (.cellsT tg [.str fp,.str fd]) := by rw [List.getElem?_append_left hl]; exact hh
    have g0 : loadAV 1 false (h ++ [Blk.cells [.str p,.str d]]) (.ptr l 0) = some (.str fp) := by simp [loadAV,hh2,cut,mkVal]
    have g1 : loadAV 1 false (h ++ [Blk.cells [.str p,.str d]]) (.ptr h.length 0) = some (.str p) := ld_cell (vs := [.str p,.str d]) (by simp) rfl
    have c1 : ∀ st h,opV G st h (.call Fn.tree_below) (some [.str fp,.str p]) = some (.bool (belowE fp p),h) := fun st h => op_call hB (us := [.str fp,.str p]) rfl (by simp only [F_below]; rw [if_pos hp]) (.inl rfl)
    rw [wpM_go]
    simp [Mc.q73,frInit,Ks.q73,hh2,c1,lookQ,Rs.q73,owns,freezeAll]
   ·cases hF
  ·cases hF
 ·cases hF
theorem mkT (f : Touch) : mkVal true 2 f.row = some (.agg f.row) ∧ f.row.length = 2 := ⟨by simp [mkVal,Touch.row],rfl⟩
theorem take_rows (n : Nat) (t : List Touch) : (touchRows t).take n = touchRows (t.take n) := by simp [touchRows,List.map_take]
theorem sizes_rows : ∀ t : List Touch,sizesOk 2 (touchRows t) = true
 | [] => rfl
 | _ :: r => by
  have := sizes_rows r
  simp only [touchRows,List.map_cons,sizesOk,Touch.row] at this ⊢
  simp [this]
theorem last_take {t : List Touch} {i : Nat} {g : Touch} (hi : 0 < i) (hg : t[i - 1]? = some g) : (t.take i).getLast? = some g := by
 have hlt : i - 1 < t.length := (List.getElem?_eq_some_iff.1 hg).1
 rw [List.getLast?_eq_getElem?,List.length_take,show min i t.length - 1 = i - 1 by omega,List.getElem?_take_of_lt (by omega),hg]
theorem check_L0 (G G0 : Gam) (hP : G Fn.tree_Path = some (.pure F_Path)) (hC : G Fn.q12 = some (.gen (lookF (F_ContainsFunc true 2 G0)))) (h1 : G0 Fn.q73 = some (.gen (lookF F_chk1))) (t : List Touch) (hb : t.length ≤ 64)
  (ht : ∀ f ∈ t,f.path.length < 4294967281) (r : Int) : ∀ (rest : List Touch) (i : Nat) (x y : AV) (H : Heap),t.drop i = rest → i ≤ t.length → r = treeFrom (t.take i) rest →
  headM G [3,4] Mc.tree_Check_L0 0 [.blk 0,.seq (.seq (.reg [⟨none,some 2,true,.mv,[.c (.int .i64 0)]⟩]) .ret)] (pureQ Rs.tree_Check (.int .i64 r))
   [(0,.sl (touchRows t)),(2,.int .i64 0),(3,x),(4,y),(8,.sl (touchRows t)),(9,.int .i64 t.length),(10,.int .i64 i)] H
 | [],i,x,y,H,hd,hi,hr => by
  have hi2 := drop_nil hd
  have hl : ltB (i : Int) (t.length : Int) = false := ltB_not.2 (by omega)
  simp only [treeFrom] at hr
  subst hr
  refine head_go (Mc.tree_Check_L0.eq_1) ?_
  simp [hl,trunc,lowFr,low,lowH,pureQ,Rs.tree_Check]
 | f :: rest,i,x,y,H,hd,hi,hr => by
  obtain ⟨hlt,hx,hxd⟩ := drop_cons hd
  have hl : ltB (i : Int) (t.length : Int) = true := ltB_iff.2 (by omega)
  have hmem : f ∈ t := List.mem_of_getElem? hx
  have hpl := ht f hmem
  have hrow := touchRows_get hx
  have hw : IntKind.i64.wrap ((i : Int) + 1) = ((i + 1 : Nat) : Int) := wrap1 (by unfold big; omega)
  have ir : ∀ st h,opV G st h (.iadr 2) (some [.sl (touchRows t),.int .i64 i]) = some (.fptr [.str f.path,.str f.dig] 0,h) := fun st h => by
   rw [opV_quiet rfl]; simp [evalPure,iadrAV,hrow]
  have cp : ∀ st h,opV G st h (.call Fn.tree_Path) (some [.str f.path]) = some (.int .i64 (if pathOK f.path then 0 else 2),h) := fun st h => op_call hP (us := [.str f.path]) rfl (F1_use (A := eStr) (R := eInt) (x := f.path) (by simp [hpl])) (.inl rfl)
  rw [treeFrom] at hr
  refine head_go (Mc.tree_Check_L0.eq_1) ?_
  cases hp : pathOK f.path with
  | false =>
   rw [if_pos hp] at hr
   subst hr
   rw [hp] at cp
   have q : eqB 2 0 = false := rfl
   simp [hl,trunc,lowFr,low,lowH,ir,cp,q,oneC,AV.cells,setAt,cut,mkVal,pureQ,Rs.tree_Check]
  | true =>
   rw [if_neg (by simp [hp])] at hr
   rw [hp] at cp
   by_cases hd : 65536 < f.dig.length
   ·rw [if_pos hd] at hr
    subst hr
    have q : ltB 65536 (f.dig.length : Int) = true := ltB_iff.2 (by omega)
    simp [hl,trunc,lowFr,low,lowH,ir,cp,q,lenAV,oneC,AV.cells,setAt,cut,mkVal,pureQ,Rs.tree_Check]
   ·rw [if_neg hd] at hr
    have q : ltB 65536 (f.dig.length : Int) = false := ltB_not.2 (by omega)
    have sl : ∀ st h,opV G st h (.slc (some 2) false true false) (some [.sl (touchRows t),.int .i64 i]) = some (.sl (touchRows (t.take i)),h) := fun st h => by
     rw [op_slc_hi (by simp; omega) (sizes_rows t),take_rows]
    have hc : opV G false [.cells [.str f.path,.str f.dig]] (.call Fn.q12) (some [.sl (touchRows (t.take i)),.fn Fn.q73 [.ptr 0 0]]) = some (.bool ((t.take i).any fun g => belowE f.path g.path),[.cells [.str f.path,.str f.dig]]) :=
     contains_use (G0 := G0) (xs := t.take i) (e := Touch.row) (val := fun f => .agg f.row) (agg := true) (n := 2) hC (by simp; unfold big; omega) mkT fun g hg => by
      refine ask_of ?_
      have hgl := ht g (List.mem_of_mem_take hg)
      simp only [callAV,h1,lookF,F_chk1,Touch.row,List.getElem?_cons_zero]
      rw [if_pos (by unfold big; omega)]
      rfl
    have htk : t.take (i + 1) = t.take i ++ [f] := by rw [List.take_add_one,hx]; rfl
    have ih := fun X Y H' hr' => check_L0 G G0 hP hC h1 t hb ht r rest (i + 1) X Y H' hxd (by omega) hr'
    rw [htk] at ih
    obtain ⟨b,hbv⟩ : ∃ b,((t.take i).any fun g => belowE f.path g.path) = b := ⟨_,rfl⟩
    rw [hbv] at hc hr
    by_cases hi0 : i = 0
    ·subst hi0
     have g0 : ltB 0 0 = false := rfl
     simp only [List.take_zero,List.any_nil] at hbv
     subst hbv
     rw [if_neg (by simp),if_neg (by simp)] at hr
     have ih2 := fun X Y H' => ih X Y H' hr
     have w1 : IntKind.i64.wrap 1 = 1 := rfl
     simp at ir sl hc hl
     simp [hl,trunc,lowFr,low,lowH,ir,cp,q,sl,hc,w1,lenAV,oneC,AV.cells,setAt,cut,mkVal]
     simpa using ih2 _ _ _
    ·obtain ⟨g,hg⟩ : ∃ g,t[i - 1]? = some g := ⟨_,List.getElem?_eq_getElem (by omega)⟩
     have hlast := last_take (by omega) hg
     have g0 : ltB 0 (i : Int) = true := ltB_iff.2 (by omega)
     have ws : IntKind.i64.wrap ((i : Int) - 1) = (i : Int) - 1 := i64_in _ ⟨by omega,by omega⟩
     have hgr := touchRows_get hg
     have ir2 : ∀ st h,opV G st h (.iadr 2) (some [.sl (touchRows t),.int .i64 ((i : Int) - 1)]) = some (.fptr [.str g.path,.str g.dig] 0,h) := fun st h => by
      have e : ((i : Int) - 1) = ((i - 1 : Nat) : Int) := by omega
      rw [e,opV_quiet rfl]; simp [evalPure,iadrAV,hgr]
     have bg : binAV .geq (.str g.path) (.str f.path) = some (.bool (!(Op.bytesLess g.path f.path))) := rfl
     rw [hlast] at hr
     cases hbl : Op.bytesLess g.path f.path with
     | false =>
      rw [hbl] at bg
      simp only [Option.map_some,hbl,if_true] at hr
      subst hr
      simp [hl,trunc,lowFr,low,lowH,ir,ir2,cp,q,g0,ws,bg,lenAV,oneC,AV.cells,setAt,cut,mkVal,pureQ,Rs.tree_Check]
     | true =>
      rw [hbl] at bg
      simp only [Option.map_some,hbl,Option.some.injEq,Bool.true_eq_false,if_false] at hr
      cases b with
      | true =>
       simp only [if_true] at hr
       subst hr
       simp [hl,trunc,lowFr,low,lowH,ir,ir2,cp,q,g0,ws,bg,sl,hc,lenAV,oneC,AV.cells,setAt,cut,mkVal,pureQ,Rs.tree_Check]
      | false =>
       simp only [Bool.false_eq_true,if_false] at hr
       have ih2 := fun X Y H' => ih X Y H' hr
       simp [hl,trunc,lowFr,low,lowH,ir,ir2,cp,q,g0,ws,bg,sl,hc,hw,lenAV,oneC,AV.cells,setAt,cut,mkVal]
       simpa using ih2 _ _ _
def F_treeCheck : List AV → Option AV
 | [.sl rows] => match decAll decTouch rows with
  | some t => if t.all fun f => decide (f.path.length < 4294967281) then some (.int .i64 (treeE t)) else none
  | none => none
 | _ => none
theorem treeCheck_ok {G G0 : Gam} (hP : G Fn.tree_Path = some (.pure F_Path)) (hC : G Fn.q12 = some (.gen (lookF (F_ContainsFunc true 2 G0)))) (h1 : G0 Fn.q73 = some (.gen (lookF F_chk1))) :
  ∀ args r,F_treeCheck args = some r → wpM G Mc.tree_Check (pureQ Rs.tree_Check r) [] (frInit Ks.tree_Check args) [] := by
 intro args r hF
 unfold F_treeCheck at hF
 split at hF
 ·rename_i rows
  split at hF
  ·rename_i t hdec
   split at hF
   ·rename_i hall
    injection hF with hF; subst hF
    have hrows : rows = touchRows t := decAll_of (fun r x => decTouch_of) hdec
    subst hrows
    have ht : ∀ f ∈ t,f.path.length < 4294967281 := by simpa using hall
    rw [wpM_go]
    by_cases hb : 64 < t.length
    ·have q : ltB 64 (t.length : Int) = true := ltB_iff.2 (by omega)
     have e : treeE t = 10 := by unfold treeE; rw [if_pos hb]
     rw [e]
     simp [Mc.tree_Check,frInit,Ks.tree_Check,lenAV,q,pureQ,Rs.tree_Check]
    ·have q : ltB 64 (t.length : Int) = false := ltB_not.2 (by omega)
     have e : treeE t = treeFrom [] t := by unfold treeE; rw [if_neg hb]
     rw [e]
     have ih := check_L0 G G0 hP hC h1 t (by omega) ht _ t 0 .junk .junk [] rfl (by omega) rfl
     simp [Mc.tree_Check,frInit,Ks.tree_Check,lenAV,q]
     simpa using ih
   ·cases hF
  ·cases hF
 ·cases hF
end Go.Proofs.YtopiadllkglamaaGreatDoor
