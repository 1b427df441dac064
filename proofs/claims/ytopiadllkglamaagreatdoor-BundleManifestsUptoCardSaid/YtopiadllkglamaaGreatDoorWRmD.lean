/- slices.IndexFunc and ContainsFunc,at this program's types: by program. Parts of paths: cmp.Less,slices.IsSorted,tree.part and what it calls. Paths: tree.part,tree.Path,and the reference's. Touche -/
import Derived.Test.YtopiadllkglamaaGreatDoorWRecMc
import Derived.Test.YtopiadllkglamaaGreatDoorWAm10
import Derived.Test.YtopiadllkglamaaGreatDoorWRmA
import Derived.Test.YtopiadllkglamaaGreatDoorWAm1
namespace Go.Proofs.YtopiadllkglamaaGreatDoor
open Go.RowKit Go.IntWalk
theorem zf8 (G : Gam) (h : Heap) (rows : List (List AV)) (f : FuncId) (caps : List AV) (hb : rows.length ≤ big) : ∀ (rest : List (List AV)) (i : Nat) (v : Int),rows.drop i = rest → zJ7 (fun row => if row.length = 2 then (zd8 true 2 row).bind (ask G h f caps) else none) i rest = some v →
  zi3 G [5] Mc.q11_L0 h.length [.blk 0,.seq (.seq (.reg [⟨none,some 4,true,.mv,[.c (.int .i64 (-1))]⟩]) .ret)] (zq8 Rs.q11 (.int .i64 v) h)
  [(0,.sl rows),(1,.fn f caps),(4,.int .i64 0),(5,.junk),(7,.int .i64 rows.length),(8,.int .i64 i)] h
 | [],i,v,hd,hv => by
  have hi := zh4 hd
  have hi' : ¬ (i : Int) < rows.length := by omega
  simp only [zJ7,Option.some.injEq] at hv; subst hv
  refine zb3 (Mc.q11_L0.eq_1) ?_
  simp [ltB,hi',zq8,Rs.q11,owns,zc6]
 | x :: rest,i,v,hd,hv => by
  obtain ⟨hi,hx,hxd⟩ := zf0 hd
  have hi' : (i : Int) < rows.length := by omega
  have hw := zn1 (i := i) (by omega)
  by_cases hl : x.length = 2
  ·simp only [zJ7,hl,if_true] at hv
   cases hm : zd8 true 2 x with
   | none => simp [hm] at hv
   | some a =>
    simp only [hm,Option.bind_some] at hv
    have hcut : zd8 true 2 (cut x 0 2) = some a := by rw [xn7 hl]; exact hm
    cases ha : ask G h f caps a with
    | none => simp [ha] at hv
    | some b =>
     have hc := yp5 ha
     simp only [ha] at hv
     refine zb3 (Mc.q11_L0.eq_1) ?_
     cases b with
     | true =>
      simp only [Option.some.injEq] at hv; subst hv
      simp [ltB,hi',zD3 hx hl,hcut,hc,zq8,Rs.q11,owns,zc6]
     | false =>
      simp [ltB,hi',zD3 hx hl,hcut,hc,hw]
      refine ze8 ?_
      have ih := zf8 G h rows f caps hb rest (i + 1) v hxd hv
      simpa using ih
  ·simp [zJ7,hl] at hv
theorem zl0 (G : Gam) : ∀ args h r,zk0 true 2 G args h = some r → wpM G Mc.q11 (zq8 Rs.q11 r h) [] (za2 Ks.q11 args) h := by
 intro args h r hF
 obtain ⟨rows,f,caps,v,rfl,hb,hv,rfl⟩ := zF0 hF
 rw [zc8]
 have ih := zf8 G h rows f caps hb rows 0 v rfl hv
 simpa [Mc.q11,za2,Ks.q11] using ih
theorem zj8 (G G0 : Gam) (hG : G Fn.q11 = some (.gen (zm2 (zk0 true 2 G0)))) : ∀ args h r,zf5 true 2 G0 args h = some r → wpM G Mc.q9 (zq8 Rs.q9 r h) [] (za2 Ks.q9 args) h := by
 intro args h r hF
 obtain ⟨rows,f,caps,v,rfl,hb,hv,rfl⟩ := zw3 hF
 rw [zc8]
 have hc : ∀ h0 : Heap,h0 = h → opV G false h0 (.call Fn.q11) (some [.sl rows,.fn f caps]) = some (.int .i64 v,h0) := fun h0 e => by subst e; rw [zg1 hG]; simp [zm2,zk0,hb,hv]
 simp [Mc.q9,za2,Ks.q9,hc,zq8,Rs.q9,owns,zc6]
theorem zg2 (G : Gam) (h : Heap) (rows : List (List AV)) (f : FuncId) (caps : List AV) (hb : rows.length ≤ big) : ∀ (rest : List (List AV)) (i : Nat) (v : Int),rows.drop i = rest → zJ7 (fun row => if row.length = 1 then (zd8 false 1 row).bind (ask G h f caps) else none) i rest = some v →
  zi3 G [5] Mc.q13_L0 h.length [.blk 0,.seq (.seq (.reg [⟨none,some 4,true,.mv,[.c (.int .i64 (-1))]⟩]) .ret)] (zq8 Rs.q13 (.int .i64 v) h)
  [(0,.sl rows),(1,.fn f caps),(4,.int .i64 0),(5,.junk),(7,.int .i64 rows.length),(8,.int .i64 i)] h
 | [],i,v,hd,hv => by
  have hi := zh4 hd
  have hi' : ¬ (i : Int) < rows.length := by omega
  simp only [zJ7,Option.some.injEq] at hv; subst hv
  refine zb3 (Mc.q13_L0.eq_1) ?_
  simp [ltB,hi',zq8,Rs.q13,owns,zc6]
 | x :: rest,i,v,hd,hv => by
  obtain ⟨hi,hx,hxd⟩ := zf0 hd
  have hi' : (i : Int) < rows.length := by omega
  have hw := zn1 (i := i) (by omega)
  by_cases hl : x.length = 1
  ·simp only [zJ7,hl,if_true] at hv
   cases hm : zd8 false 1 x with
   | none => simp [hm] at hv
   | some a =>
    simp only [hm,Option.bind_some] at hv
    have hcut : zd8 false 1 (cut x 0 1) = some a := by rw [xn7 hl]; exact hm
    cases ha : ask G h f caps a with
    | none => simp [ha] at hv
    | some b =>
     have hc := yp5 ha
     simp only [ha] at hv
     refine zb3 (Mc.q13_L0.eq_1) ?_
     cases b with
     | true =>
      simp only [Option.some.injEq] at hv; subst hv
      simp [ltB,hi',zD3 hx hl,hcut,hc,zq8,Rs.q13,owns,zc6]
     | false =>
      simp [ltB,hi',zD3 hx hl,hcut,hc,hw]
      refine ze8 ?_
      have ih := zg2 G h rows f caps hb rest (i + 1) v hxd hv
      simpa using ih
  ·simp [zJ7,hl] at hv
theorem zl5 (G : Gam) : ∀ args h r,zk0 false 1 G args h = some r → wpM G Mc.q13 (zq8 Rs.q13 r h) [] (za2 Ks.q13 args) h := by
 intro args h r hF
 obtain ⟨rows,f,caps,v,rfl,hb,hv,rfl⟩ := zF0 hF
 rw [zc8]
 have ih := zg2 G h rows f caps hb rows 0 v rfl hv
 simpa [Mc.q13,za2,Ks.q13] using ih
theorem zk4 (G G0 : Gam) (hG : G Fn.q13 = some (.gen (zm2 (zk0 false 1 G0)))) : ∀ args h r,zf5 false 1 G0 args h = some r → wpM G Mc.q10 (zq8 Rs.q10 r h) [] (za2 Ks.q10 args) h := by
 intro args h r hF
 obtain ⟨rows,f,caps,v,rfl,hb,hv,rfl⟩ := zw3 hF
 rw [zc8]
 have hc : ∀ h0 : Heap,h0 = h → opV G false h0 (.call Fn.q13) (some [.sl rows,.fn f caps]) = some (.int .i64 v,h0) := fun h0 e => by subst e; rw [zg1 hG]; simp [zm2,zk0,hb,hv]
 simp [Mc.q10,za2,Ks.q10,hc,zq8,Rs.q10,owns,zc6]
end Go.Proofs.YtopiadllkglamaaGreatDoor
namespace Go.Proofs.YtopiadllkglamaaGreatDoor
open Go.RowKit Go.IntWalk
theorem xX9 {G : Gam} {s : Bool} {h : Heap} {str : Bs} {l pos : Nat} (hl : h[l]? = some (.iter str pos)) : opV G s h .nxt (some [.ptr l 0]) = if pos < str.length then some (.tup [.bool true,.int .i64 pos,.int .i32 (Utf8.decode ⟨str.toArray⟩ pos).1],h.set l (.iter str (pos + (Utf8.decode ⟨str.toArray⟩ pos).2))) else some (.tup [.bool false],h) := by
 rw [zi1 rfl]; simp only [zb1,hl]
@[simp] theorem op_rng {G : Gam} {s : Bool} {h : Heap} {str : Bs} : opV G s h .rng (some [.str str]) = some (.ptr h.length 0,h ++ [.iter str 0]) := by rw [zi1 rfl]; rfl
theorem za5 {n : Nat} {fr : List (Nat × AV)} {h : Heap} (hl : h.length = n) : trunc n fr h = h := by subst hl; exact yS5
noncomputable def zL1 (G : Gam) (h : Heap) (f : FuncId) (caps : List AV) (truth : Bool) (s : Bs) : Nat → Nat → Option Int
 | 0,_ => none
 | n + 1,pos => if pos < s.length then (match ask G (h ++ [.iter s (pos + (Utf8.decode ⟨s.toArray⟩ pos).2)]) f caps (.int .i32 (Utf8.decode ⟨s.toArray⟩ pos).1) with
   | some b => if b = truth then some pos else zL1 G h f caps truth s n (pos + (Utf8.decode ⟨s.toArray⟩ pos).2)
   | none => none) else some (-1)
noncomputable def zv1 (G : Gam) : List AV → Heap → Option AV
 | [.str s,.fn f caps,.bool truth],h => (zL1 G h f caps truth s (s.length + 1) 0).map (.int .i64)
 | _,_ => none
noncomputable def zn9 (G : Gam) : List AV → Heap → Option AV
 | [.str s,.fn f caps],h => (zL1 G h f caps true s (s.length + 1) 0).map (.int .i64)
 | _,_ => none
noncomputable def zk5 (G : Gam) : List AV → Heap → Option AV
 | [.str s,.fn f caps],h => (zL1 G h f caps true s (s.length + 1) 0).map fun i => .bool (!ltB i 0)
 | _,_ => none
theorem zH4 (G : Gam) (h : Heap) (s : Bs) (f : FuncId) (caps : List AV) (truth : Bool) : ∀ (n pos : Nat) (v : Int),zL1 G h f caps truth s n pos = some v →
  zi3 G [7,8,11] Mc.q43_L0 (h.length + 1) [.blk 0,.seq (.seq (.reg [⟨none,some 6,true,.mv,[.c (.int .i64 (-1))]⟩]) .ret)] (zq8 Rs.q43 (.int .i64 v) h)
  [(0,.str s),(1,.fn f caps),(2,.bool truth),(6,.int .i64 0),(7,.junk),(8,.junk),(10,.ptr h.length 0),(11,.junk)] (h ++ [.iter s pos])
 | 0,pos,v,hv => by simp [zL1] at hv
 | n + 1,pos,v,hv => by
  refine zb3 (Mc.q43_L0.eq_1) ?_
  rw [za5 (by simp)]
  have hn := fun s' => xX9 (G := G) (s := s') (h := h ++ [.iter s pos]) (str := s) (l := h.length) (pos := pos) (by simp)
  simp only [zL1] at hv
  by_cases hp : pos < s.length
  ·simp only [hp,if_true] at hv
   cases ha : ask G (h ++ [.iter s (pos + (Utf8.decode ⟨s.toArray⟩ pos).2)]) f caps (.int .i32 (Utf8.decode ⟨s.toArray⟩ pos).1) with
   | none => simp [ha] at hv
   | some b =>
    have hc := yp5 ha
    simp only [ha] at hv
    by_cases hb : b = truth
    ·simp only [hb,if_true,Option.some.injEq] at hv; subst hv hb
     simp [hn,hp,hc,zq8,Rs.q43,owns,zc6]
    ·simp only [hb,if_false] at hv
     have hb' : (b == truth) = false := by simp [hb]
     simp [hn,hp,hc,hb']
     refine ze8 ?_
     have ih := zH4 G h s f caps truth n _ v hv
     rw [za5 (by simp)]
     simpa using ih
  ·simp only [hp,if_false,Option.some.injEq] at hv; subst hv
   simp [hn,hp,zq8,Rs.q43,owns,zc6]
theorem yx9 (G : Gam) : ∀ args h r,zv1 G args h = some r → wpM G Mc.q43 (zq8 Rs.q43 r h) [] (za2 Ks.q43 args) h := by
 intro args h r hF
 match args,hF with
 | [.str s,.fn f caps,.bool truth],hF =>
  simp only [zv1,Option.map_eq_some_iff] at hF
  obtain ⟨v,hv,rfl⟩ := hF
  rw [zc8]
  have ih := zH4 G h s f caps truth _ 0 v hv
  simpa [Mc.q43,za2,Ks.q43] using ih
theorem zW5 (G G0 : Gam) (hG : G Fn.q43 = some (.gen (zm2 (zv1 G0)))) : ∀ args h r,zn9 G0 args h = some r → wpM G Mc.q42 (zq8 Rs.q42 r h) [] (za2 Ks.q42 args) h := by
 intro args h r hF
 match args,hF with
 | [.str s,.fn f caps],hF =>
  simp only [zn9,Option.map_eq_some_iff] at hF
  obtain ⟨v,hv,rfl⟩ := hF
  rw [zc8]
  have hc : opV G false h (.call Fn.q43) (some [.str s,.fn f caps,.bool true]) = some (.int .i64 v,h) := by rw [zg1 hG]; simp [zm2,zv1,hv]
  simp [Mc.q42,za2,Ks.q42,hc,zq8,Rs.q42,owns,zc6]
theorem zK7 (G G0 : Gam) (hG : G Fn.q42 = some (.gen (zm2 (zn9 G0)))) : ∀ args h r,zk5 G0 args h = some r → wpM G Mc.q31 (zq8 Rs.q31 r h) [] (za2 Ks.q31 args) h := by
 intro args h r hF
 match args,hF with
 | [.str s,.fn f caps],hF =>
  simp only [zk5,Option.map_eq_some_iff] at hF
  obtain ⟨v,hv,rfl⟩ := hF
  rw [zc8]
  have hc : opV G false h (.call Fn.q42) (some [.str s,.fn f caps]) = some (.int .i64 v,h) := by rw [zg1 hG]; simp [zm2,zn9,hv]
  simp [Mc.q31,za2,Ks.q31,hc,zq8,Rs.q31,owns,zc6]
def pch (n : Int) : Bool := (!ltB n 97 && !ltB 122 n) || (!ltB n 48 && !ltB 57 n) || eqB n 46 || eqB n 95 || eqB n 45
def yq8 : List AV → Option AV := F1 (zo6 .i32) eBool fun n => some (!pch n)
theorem xv8 (G : Gam) : ∀ args r,yq8 args = some r → wpM G Mc.tree_part_1 (zb0 Rs.tree_part_1 r) [] (za2 Ks.tree_part_1 args) [] := zU6 fun x r h => by
 injection h with h; subst h
 rw [zc8]
 simp +contextual [Mc.tree_part_1,za2,Ks.tree_part_1,Rs.tree_part_1,zo6,eBool,pch]
end Go.Proofs.YtopiadllkglamaaGreatDoor
namespace Go.Proofs.YtopiadllkglamaaGreatDoor
open Go.RowKit Go.IntWalk
def zl6 : Bs → Bool
 | [] => false
 | c :: r => !ltB 32 ((c :: r).length : Nat) && !eqB c.toNat 46 && !eqB c.toNat 45 && (c :: r).all fun b => pch b.toNat
theorem xn0 {s : Bs} {i : Nat} {b : UInt8} (hb : s[i]? = some b) (h : b.toNat < 128) : Utf8.decode ⟨s.toArray⟩ i = (b.toNat,1) := by
 have hg : (ByteArray.get! ⟨s.toArray⟩ i) = b := by
  show s.toArray[i]! = b
  simp [getElem!_def,hb]
 unfold Utf8.decode
 simp [hg,h]
theorem xn1 {s : Bs} {i : Nat} {b : UInt8} (hb : s[i]? = some b) (h : 128 ≤ b.toNat) : 128 ≤ (Utf8.decode ⟨s.toArray⟩ i).1 := by
 have hg : (ByteArray.get! ⟨s.toArray⟩ (i + 0)) = b := by
  show s.toArray[i]! = b
  simp [getElem!_def,hb]
 unfold Utf8.decode
 have h' : ¬ b.toNat < 128 := by omega
 simp only [hg,h',if_false]
 split
 ·split
  ·simpa using ‹_›
  ·decide
 ·split
  ·split
   ·rename_i h3; simp at h3; simp; omega
   ·decide
  ·split
   ·split
    ·rename_i h3; simp at h3; simp; omega
    ·decide
   ·decide
theorem xD7 {n : Int} (h : 128 ≤ n) : pch n = false := by
 have a1 : ltB 122 n = true := zb8.2 (by omega)
 have a2 : ltB 57 n = true := zb8.2 (by omega)
 have a3 : eqB n 46 = false := zj4.2 (by omega)
 have a4 : eqB n 95 = false := zj4.2 (by omega)
 have a5 : eqB n 45 = false := zj4.2 (by omega)
 simp [pch,a1,a2,a3,a4,a5]
theorem ye3 {G : Gam} (hG : G Fn.tree_part_1 = some (.pure yq8)) (h : Heap) (s : Bs) : ∀ (n pos : Nat),s.length - pos < n → ∃ v,zL1 G h Fn.tree_part_1 [] true s n pos = some v ∧ ltB v 0 = (s.drop pos).all fun b => pch b.toNat
 | 0,pos,hn => by omega
 | n + 1,pos,hn => by
  have hask : ∀ h (x : Int),ask G h Fn.tree_part_1 [] (.int .i32 x) = some (!pch x) := fun h x => xq7 (yb2 hG rfl (zw5 (A := zo6 .i32) (R := eBool) (x := x) rfl) rfl)
  simp only [zL1,hask]
  by_cases hp : pos < s.length
  ·obtain ⟨b,hb,hd⟩ := xm5 hp
   simp only [hp,if_true,hd,List.all_cons]
   rcases Nat.lt_or_ge b.toNat 128 with hlo | hhi
   ·rw [xn0 hb hlo]
    cases hpc : pch b.toNat with
    | true =>
     simp only [Bool.not_true,Bool.false_eq_true,if_false,Bool.true_and]
     exact ye3 hG h s n (pos + 1) (by omega)
    | false => exact ⟨pos,by simp,by simp [ze4]⟩
   ·have h1 := xD7 (n := (Utf8.decode ⟨s.toArray⟩ pos).1) (by have := xn1 hb hhi; omega)
    have h2 := xD7 (n := b.toNat) (by omega)
    exact ⟨pos,by simp [h1],by simp [h2,ze4]⟩
  ·have : s.drop pos = [] := by rw [List.drop_eq_nil_iff]; omega
   exact ⟨-1,by simp [hp],by rw [this]; rfl⟩
def xr9 : List AV → Option AV := F1 eStr eBool fun s => some (zl6 s)
theorem xJ8 (G G0 : Gam) (hG : G Fn.q31 = some (.gen (zm2 (zk5 G0)))) (hG0 : G0 Fn.tree_part_1 = some (.pure yq8)) : ∀ args r,xr9 args = some r → wpM G Mc.tree_part (zb0 Rs.tree_part r) [] (za2 Ks.tree_part args) [] := zU6 fun s r h => by
 injection h with h; subst h
 rw [zc8]
 cases s with
 | nil => simp [Mc.tree_part,za2,Ks.tree_part,Rs.tree_part,eStr,eBool,zl6]
 | cons c r =>
  obtain ⟨v,hv,hl⟩ := ye3 hG0 [] (c :: r) ((c :: r).length + 1) 0 (by omega)
  have hc : opV G false [] (.call Fn.q31) (some [.str (c :: r),.fn Fn.tree_part_1 []]) = some (.bool (!ltB v 0),[]) := by rw [zg1 hG]; simp only [zm2,zk5,hv]; rfl
  rw [List.drop_zero] at hl
  cases c1 : ltB 32 ((r.length : Int) + 1) <;> cases c2 : eqB (c.toNat : Int) 46 <;> cases c3 : eqB (c.toNat : Int) 45 <;>
   simp [Mc.tree_part,za2,Ks.tree_part,Rs.tree_part,eStr,eBool,zl6,hc,hl,-List.all_cons,c1,c2,c3]
def yJ9 : List AV → Option AV := F1 eStr eBool fun s => some (!zl6 s)
theorem xC4 (G : Gam) (hG : G Fn.tree_part = some (.pure xr9)) : ∀ args r,yJ9 args = some r → wpM G Mc.tree_Path_1 (zb0 Rs.tree_Path_1 r) [] (za2 Ks.tree_Path_1 args) [] := zU6 fun s r h => by
 injection h with h; subst h
 rw [zc8]
 have hc : ∀ st h,opV G st h (.call Fn.tree_part) (some [.str s]) = some (.bool (zl6 s),h) := fun st h => zb5 hG rfl (zw5 (A := eStr) (R := eBool) (x := s) rfl) (.inl rfl)
 simp [Mc.tree_Path_1,za2,Ks.tree_Path_1,Rs.tree_Path_1,eStr,eBool,hc]
theorem zu0 (c : UInt8) : ∀ s,(za9 c s).length ≤ s.length + 1
 | [] => by simp [za9]
 | b :: r => by
  have ih := zu0 c r
  unfold za9; split
  ·simp; omega
  ·split
   ·rename_i p ps h; rw [h] at ih; simp at ih ⊢; omega
   ·simp
def zf1 (s : Bs) : Bool := !ltB 128 s.length && !ltB 8 (za9 47 s).length && (za9 47 s).all zl6
def zz4 : List AV → Option AV := F1 eStr eInt fun s => if s.length < 4294967281 then some (if zf1 s then 0 else 2) else none
theorem xR4 (G G0 : Gam) (hS : G Fn.q70 = some (.pure zB5)) (hC : G Fn.q10 = some (.gen (zm2 (zf5 false 1 G0)))) (hG0 : G0 Fn.tree_Path_1 = some (.pure yJ9)) : ∀ args r,zz4 args = some r → wpM G Mc.tree_Path (zb0 Rs.tree_Path r) [] (za2 Ks.tree_Path args) [] := zU6 fun s r h => by
 split at h
 ·rename_i hs
  injection h with h; subst h
  rw [zc8]
  have h1 : ∀ st h,opV G st h (.call Fn.q70) (some [.str s,.str [47]]) = some (.sl ((za9 47 s).map rStr.enc),h) := fun st h => zb5 hS rfl (yj7 (A := eStr) (B := eStr) (R := eSl rStr) (x := s) (y := [47]) (by simp only [hs,if_true])) (.inr rfl)
  have h2 := zT5 (h := []) (caps := []) (p := fun x => !zl6 x) (f := Fn.tree_Path_1) (e := rStr.enc) (val := .str) (xs := za9 47 s) hC (by have := zu0 47 s; unfold big; omega) (fun x => ⟨rfl,rfl⟩) (fun x _ => xq7 (yb2 hG0 rfl (zw5 (A := eStr) (R := eBool) (x := x) rfl) rfl))
  have hall : (za9 47 s).any (fun x => !zl6 x) = !(za9 47 s).all zl6 := by rw [List.not_all_eq_any_not]
  rw [hall] at h2
  cases c1 : ltB 128 s.length <;> cases c2 : ltB 8 (za9 47 s).length <;> cases c3 : (za9 47 s).all zl6 <;>
   simp only [c3] at h2 <;> simp [Mc.tree_Path,za2,Ks.tree_Path,Rs.tree_Path,eStr,eInt,zf1,h1,h2,c1,c2,c3]
 ·cases h
def preP (cur : Bs) : List Bs → List Bs
 | p :: ps => (cur ++ p) :: ps
 | [] => [cur]
theorem yL8 (l : List Bs) (h : l ≠ []) : preP [] l = l := by
 cases l with
 | nil => exact absurd rfl h
 | cons p ps => rfl
theorem yS8 {c : UInt8} {cur : Bs} {b : UInt8} {r : Bs} (h : b ≠ c) : preP cur (za9 c (b :: r)) = preP (cur ++ [b]) (za9 c r) := by
 have hne := zq2 c r
 simp only [za9,h,if_false]
 cases hs : za9 c r with
 | nil => exact absurd hs hne
 | cons p ps => simp [preP]
theorem yZ8 {c : UInt8} {cur : Bs} {r : Bs} : preP cur (za9 c (c :: r)) = cur :: za9 c r := by simp [za9,preP]
end Go.Proofs.YtopiadllkglamaaGreatDoor
namespace Go.Proofs.YtopiadllkglamaaGreatDoor
open Go.RowKit Go.IntWalk
structure Touch where
 path : Bs
 dig : Bs
 deriving DecidableEq,Inhabited
structure Done where
 pkg : Int
 line : Int
 kind : Int
 reads : List Touch
 wrote : Touch
 deriving DecidableEq,Inhabited
def Touch.row (t : Touch) : List AV := [.str t.path,.str t.dig]
def zl7 : List AV → Option Touch
 | [.str p,.str d] => some ⟨p,d⟩
 | _ => none
theorem zh7 {row : List AV} {t : Touch} (h : zl7 row = some t) : row = t.row := by
 unfold zl7 at h; split at h
 ·injection h with h; subst h; rfl
 ·cases h
def zs1 {α : Type} (dec : List AV → Option α) : List (List AV) → Option (List α)
 | [] => some []
 | r :: rs => match dec r,zs1 dec rs with
  | some x,some xs => some (x :: xs)
  | _,_ => none
theorem zl2 {α : Type} {dec : List AV → Option α} {enc : α → List AV} (h1 : ∀ r x,dec r = some x → r = enc x) : ∀ {rows : List (List AV)} {xs : List α},zs1 dec rows = some xs → rows = xs.map enc
 | [],xs,h => by simp [zs1] at h; subst h; rfl
 | r :: rs,xs,h => by
  simp only [zs1] at h
  split at h
  ·rename_i x xs' h2 h3
   injection h with h; subst h
   rw [h1 r x h2,zl2 h1 h3]; rfl
  ·cases h
theorem zP9 {α : Type} {dec : List AV → Option α} {enc : α → List AV} (h1 : ∀ x,dec (enc x) = some x) : ∀ (xs : List α),zs1 dec (xs.map enc) = some xs
 | [] => rfl
 | x :: xs => by simp [zs1,h1,zP9 h1 xs]
@[simp] theorem zT4 (t : Touch) : zl7 t.row = some t := rfl
def za1 (ts : List Touch) : List (List AV) := ts.map Touch.row
@[simp] theorem xt1 {ts : List Touch} : (za1 ts).length = ts.length := by simp [za1]
theorem zi0 {ts : List Touch} {i : Nat} {t : Touch} (h : ts[i]? = some t) : (za1 ts)[i]? = some [.str t.path,.str t.dig] := by simp [za1,h,Touch.row]
@[simp] theorem zh1 (ts : List Touch) : zs1 zl7 (za1 ts) = some ts := zP9 zT4 ts
def Done.row (d : Done) : List AV := [.int .i64 d.pkg,.int .i64 d.line,.int .i64 d.kind,.sl (za1 d.reads),.str d.wrote.path,.str d.wrote.dig]
def yH7 : List AV → Option Done
 | [.int .i64 p,.int .i64 l,.int .i64 k,.sl rows,.str wp,.str wd] => (zs1 zl7 rows).map fun ts => ⟨p,l,k,ts,⟨wp,wd⟩⟩
 | _ => none
@[simp] theorem yH6 (d : Done) : yH7 d.row = some d := by simp [yH7,Done.row]
def yo4 (ds : List Done) : List (List AV) := ds.map Done.row
@[simp] theorem xF6 {ts : List Done} : (yo4 ts).length = ts.length := by simp [yo4]
@[simp] theorem xF8 (ts : List Done) : zs1 yH7 (yo4 ts) = some ts := zP9 yH6 ts
def xb7 : REnc Touch := ⟨Touch.row,zl7,zT4,fun _ _ => zh7⟩
theorem xm4 (xs : List Touch) : (eSl xb7).enc xs = .sl (za1 xs) := rfl
end Go.Proofs.YtopiadllkglamaaGreatDoor
namespace Go.Proofs.YtopiadllkglamaaGreatDoor
open Go.RowKit Go.IntWalk
def zn8 (p d : Bs) : Bool := (d ++ [47]).isPrefixOf p
def zm8 : List Touch → List Touch → Int
 | _,[] => 0
 | pre,f :: r => if zf1 f.path = false then 2 else if 65536 < f.dig.length then 10 else if (pre.getLast?.map fun g => Op.bytesLess g.path f.path) = some false then 5
  else if pre.any (fun g => zn8 f.path g.path) then 6 else zm8 (pre ++ [f]) r
def zr8 (t : List Touch) : Int := if 64 < t.length then 10 else zm8 [] t
structure Bun where
 man : Bs
 pap : List Touch
 src : List Touch
end Go.Proofs.YtopiadllkglamaaGreatDoor
namespace Go.Proofs.YtopiadllkglamaaGreatDoor
open Go.RowKit Go.IntWalk
def zf7 : List AV → Option AV
 | [.str s,.str t] => some (.bool (t.isPrefixOf s))
 | _ => none
end Go.Proofs.YtopiadllkglamaaGreatDoor
namespace Go.Proofs.YtopiadllkglamaaGreatDoor
open Go.RowKit Go.IntWalk
def zs9 : List AV → Option AV
 | [.str p,.str d] => if d.length < big then some (.bool (zn8 p d)) else none
 | _ => none
theorem xB1 {G : Gam} (hP : G Fn.q41 = some (.pure zf7)) : ∀ args r,zs9 args = some r → wpM G Mc.tree_below (zb0 Rs.tree_below r) [] (za2 Ks.tree_below args) [] := by
 intro args r hF
 unfold zs9 at hF
 split at hF
 ·rename_i p d
  split at hF
  ·rename_i hd
   injection hF with hF; subst hF
   have s1 := zi7 (a := d) (b := [47]) (by unfold zj2; unfold big at hd; simp; omega)
   have c1 : ∀ st h,opV G st h (.call Fn.q41) (some [.str p,.str (d ++ [47])]) = some (.bool (zn8 p d),h) := fun st h => zb5 hP (us := [.str p,.str (d ++ [47])]) rfl rfl (.inl rfl)
   rw [zc8]
   simp [Mc.tree_below,za2,Ks.tree_below,s1,c1,zb0,Rs.tree_below]
  ·cases hF
 ·cases hF
theorem zu3 (c : UInt8) : ∀ (d p : Bs),(d ++ [c]).isPrefixOf p = true ↔ d.length < p.length ∧ p.take d.length = d ∧ p[d.length]? = some c
 | [],[] => by simp
 | [],x :: p => by simp [List.isPrefixOf]; exact ⟨fun h => h.symm,fun h => h.symm⟩
 | y :: d,[] => by simp
 | y :: d,x :: p => by
  have ih := zu3 c d p
  simp only [List.cons_append,List.isPrefixOf,Bool.and_eq_true,beq_iff_eq,ih,List.length_cons,List.take_succ_cons,List.getElem?_cons_succ,List.cons.injEq]
  constructor
  ·rintro ⟨rfl,h1,h2,h3⟩; exact ⟨by omega,⟨rfl,h2⟩,h3⟩
  ·rintro ⟨h1,⟨rfl,h2⟩,h3⟩; exact ⟨rfl,by omega,h2,h3⟩
theorem xD1 {G : Gam} : ∀ args r,zs9 args = some r → wpM G Mc.q49 (zb0 Rs.q49 r) [] (za2 Ks.q49 args) [] := by
 intro args r hF
 unfold zs9 at hF
 split at hF
 ·rename_i p d
  split at hF
  ·rename_i hd
   injection hF with hF; subst hF
   rw [zc8]
   by_cases h1 : d.length < p.length
   ·have l1 : ltB (d.length : Int) (p.length : Int) = true := zb8.2 (by omega)
    have sl : ∀ st h,opV G st h (.slc none false true false) (some [.str p,.int .i64 (d.length : Int)]) = some (.str (p.take d.length),h) := fun st h => by
     rw [zb2 rfl]
     have h1 : (d.length : Int) ≤ (p.length : Int) := by omega
     simp [za7,zs5,slc1,yk4,yd7,h1]
    obtain ⟨c,hc⟩ : ∃ c,p[d.length]? = some c := ⟨_,List.getElem?_eq_getElem h1⟩
    have is : ∀ st h,opV G st h .istr (some [.str p,.int .i64 (d.length : Int)]) = some (.int .u8 c.toNat,h) := fun st h => zx4 hc
    by_cases h2 : p.take d.length = d
    ·have b2 : zc2 .eql (.str (p.take d.length)) (.str d) = some (.bool true) := by simp only [zc2,zy6,h2]; simp
     by_cases h3 : c = 47
     ·have e3 : eqB (c.toNat : Int) 47 = true := by subst h3; rfl
      have eb : zn8 p d = true := (zu3 47 d p).2 ⟨h1,h2,by rw [hc,h3]⟩
      rw [eb]
      simp [Mc.q49,za2,Ks.q49,ze1,l1,sl,b2,is,e3,zb0,Rs.q49]
     ·have e3 : eqB (c.toNat : Int) 47 = false := zj4.2 fun e => h3 (UInt8.toNat_inj.1 (by simp; omega))
      have eb : zn8 p d = false := by
       rw [Bool.eq_false_iff]; intro e
       have := ((zu3 47 d p).1 e).2.2
       rw [hc] at this; injection this with this; exact h3 this
      rw [eb]
      simp [Mc.q49,za2,Ks.q49,ze1,l1,sl,b2,is,e3,zb0,Rs.q49]
    ·have b2 : zc2 .eql (.str (p.take d.length)) (.str d) = some (.bool false) := by simp only [zc2,zy6]; simp [h2]
     have eb : zn8 p d = false := by
      rw [Bool.eq_false_iff]; intro e
      exact h2 ((zu3 47 d p).1 e).2.1
     rw [eb]
     simp [Mc.q49,za2,Ks.q49,ze1,l1,sl,b2,zb0,Rs.q49]
   ·have l1 : ltB (d.length : Int) (p.length : Int) = false := ze4.2 (by omega)
    have eb : zn8 p d = false := by
     rw [Bool.eq_false_iff]; intro e
     exact h1 ((zu3 47 d p).1 e).1
    rw [eb]
    simp [Mc.q49,za2,Ks.q49,ze1,l1,zb0,Rs.q49]
  ·cases hF
 ·cases hF
end Go.Proofs.YtopiadllkglamaaGreatDoor
namespace Go.Proofs.YtopiadllkglamaaGreatDoor
open Go.RowKit Go.IntWalk
def yj5 : List AV → Heap → Option AV
 | [.agg [.str p,.str _],.ptr l 0],h => match h[l]? with
  | some (.cellsT _ [.str fp,.str _]) => if p.length < big then some (.bool (zn8 fp p)) else none
  | _ => none
 | _,_ => none
theorem xO3 {G : Gam} (hB : G Fn.tree_below = some (.pure zs9)) : ∀ args h r,yj5 args h = some r → wpM G Mc.q76 (zq8 Rs.q76 r h) [] (za2 Ks.q76 args) h := by
 intro args h r hF
 unfold yj5 at hF
 split at hF
 ·rename_i p d l
  split at hF
  ·rename_i tg fp fd hh
   split at hF
   ·rename_i hp
    injection hF with hF; subst hF
    have hl : l < h.length := (List.getElem?_eq_some_iff.1 hh).1
    have hh2 : (h ++ [Blk.cells [.str p,.str d]])[l]? = some (.cellsT tg [.str fp,.str fd]) := by rw [List.getElem?_append_left hl]; exact hh
    have g0 : za8 1 false (h ++ [Blk.cells [.str p,.str d]]) (.ptr l 0) = some (.str fp) := by simp [za8,hh2,cut,zd8]
    have g1 : za8 1 false (h ++ [Blk.cells [.str p,.str d]]) (.ptr h.length 0) = some (.str p) := zk9 (vs := [.str p,.str d]) (by simp) rfl
    have c1 : ∀ st h,opV G st h (.call Fn.tree_below) (some [.str fp,.str p]) = some (.bool (zn8 fp p),h) := fun st h => zb5 hB (us := [.str fp,.str p]) rfl (by simp only [zs9]; rw [if_pos hp]) (.inl rfl)
    rw [zc8]
    simp [Mc.q76,za2,Ks.q76,hh2,c1,zq8,Rs.q76,owns,zc6]
   ·cases hF
  ·cases hF
 ·cases hF
theorem mkT (f : Touch) : zd8 true 2 f.row = some (.agg f.row) ∧ f.row.length = 2 := ⟨by simp [zd8,Touch.row],rfl⟩
theorem yY9 (n : Nat) (t : List Touch) : (za1 t).take n = za1 (t.take n) := by simp [za1,List.map_take]
theorem ye0 : ∀ t : List Touch,zc3 2 (za1 t) = true
 | [] => rfl
 | _ :: r => by
  have := ye0 r
  simp only [za1,List.map_cons,zc3,Touch.row] at this ⊢
  simp [this]
theorem yx4 {t : List Touch} {i : Nat} {g : Touch} (hi : 0 < i) (hg : t[i - 1]? = some g) : (t.take i).getLast? = some g := by
 have hlt : i - 1 < t.length := (List.getElem?_eq_some_iff.1 hg).1
 rw [List.getLast?_eq_getElem?,List.length_take,show min i t.length - 1 = i - 1 by omega,List.getElem?_take_of_lt (by omega),hg]
theorem yP3 (G G0 : Gam) (hP : G Fn.tree_Path = some (.pure zz4)) (hC : G Fn.q9 = some (.gen (zm2 (zf5 true 2 G0)))) (h1 : G0 Fn.q76 = some (.gen (zm2 yj5))) (t : List Touch) (hb : t.length ≤ 64)
  (ht : ∀ f ∈ t,f.path.length < 4294967281) (r : Int) : ∀ (rest : List Touch) (i : Nat) (x y : AV) (H : Heap),t.drop i = rest → i ≤ t.length → r = zm8 (t.take i) rest →
  zi3 G [3,4] Mc.tree_Check_L0 0 [.blk 0,.seq (.seq (.reg [⟨none,some 2,true,.mv,[.c (.int .i64 0)]⟩]) .ret)] (zb0 Rs.tree_Check (.int .i64 r))
   [(0,.sl (za1 t)),(2,.int .i64 0),(3,x),(4,y),(8,.sl (za1 t)),(9,.int .i64 t.length),(10,.int .i64 i)] H
 | [],i,x,y,H,hd,hi,hr => by
  have hi2 := zh4 hd
  have hl : ltB (i : Int) (t.length : Int) = false := ze4.2 (by omega)
  simp only [zm8] at hr
  subst hr
  refine zb3 (Mc.tree_Check_L0.eq_1) ?_
  simp [hl,trunc,zm1,low,lowH,zb0,Rs.tree_Check]
 | f :: rest,i,x,y,H,hd,hi,hr => by
  obtain ⟨hlt,hx,hxd⟩ := zf0 hd
  have hl : ltB (i : Int) (t.length : Int) = true := zb8.2 (by omega)
  have hmem : f ∈ t := List.mem_of_getElem? hx
  have hpl := ht f hmem
  have hrow := zi0 hx
  have hw : IntKind.i64.wrap ((i : Int) + 1) = ((i + 1 : Nat) : Int) := zn1 (by unfold big; omega)
  have ir : ∀ st h,opV G st h (.iadr 2) (some [.sl (za1 t),.int .i64 i]) = some (.fptr [.str f.path,.str f.dig] 0,h) := fun st h => by
   rw [zb2 rfl]; simp [za7,zc9,hrow]
  have cp : ∀ st h,opV G st h (.call Fn.tree_Path) (some [.str f.path]) = some (.int .i64 (if zf1 f.path then 0 else 2),h) := fun st h => zb5 hP (us := [.str f.path]) rfl (zw5 (A := eStr) (R := eInt) (x := f.path) (by simp [hpl])) (.inl rfl)
  rw [zm8] at hr
  refine zb3 (Mc.tree_Check_L0.eq_1) ?_
  cases hp : zf1 f.path with
  | false =>
   rw [if_pos hp] at hr
   subst hr
   rw [hp] at cp
   have q : eqB 2 0 = false := rfl
   simp [hl,trunc,zm1,low,lowH,ir,cp,q,oneC,AV.cells,zj1,cut,zd8,zb0,Rs.tree_Check]
  | true =>
   rw [if_neg (by simp [hp])] at hr
   rw [hp] at cp
   by_cases hd : 65536 < f.dig.length
   ·rw [if_pos hd] at hr
    subst hr
    have q : ltB 65536 (f.dig.length : Int) = true := zb8.2 (by omega)
    simp [hl,trunc,zm1,low,lowH,ir,cp,q,ze1,oneC,AV.cells,zj1,cut,zd8,zb0,Rs.tree_Check]
   ·rw [if_neg hd] at hr
    have q : ltB 65536 (f.dig.length : Int) = false := ze4.2 (by omega)
    have sl : ∀ st h,opV G st h (.slc (some 2) false true false) (some [.sl (za1 t),.int .i64 i]) = some (.sl (za1 (t.take i)),h) := fun st h => by
     rw [xd0 (by simp; omega) (ye0 t),yY9]
    have hc : opV G false [.cells [.str f.path,.str f.dig]] (.call Fn.q9) (some [.sl (za1 (t.take i)),.fn Fn.q76 [.ptr 0 0]]) = some (.bool ((t.take i).any fun g => zn8 f.path g.path),[.cells [.str f.path,.str f.dig]]) :=
     zT5 (G0 := G0) (xs := t.take i) (e := Touch.row) (val := fun f => .agg f.row) (agg := true) (n := 2) hC (by simp; unfold big; omega) mkT fun g hg => by
      refine xq7 ?_
      have hgl := ht g (List.mem_of_mem_take hg)
      simp only [zl8,h1,zm2,yj5,Touch.row,List.getElem?_cons_zero]
      rw [if_pos (by unfold big; omega)]
      rfl
    have htk : t.take (i + 1) = t.take i ++ [f] := by rw [List.take_add_one,hx]; rfl
    have ih := fun X Y H' hr' => yP3 G G0 hP hC h1 t hb ht r rest (i + 1) X Y H' hxd (by omega) hr'
    rw [htk] at ih
    obtain ⟨b,hbv⟩ : ∃ b,((t.take i).any fun g => zn8 f.path g.path) = b := ⟨_,rfl⟩
    rw [hbv] at hc hr
    by_cases hi0 : i = 0
    ·subst hi0
     have g0 : ltB 0 0 = false := rfl
     simp only [List.take_zero,List.any_nil] at hbv
     subst hbv
     rw [if_neg (by simp),if_neg (by simp)] at hr
     have ih2 := fun X Y H' => ih X Y H' hr
     have w1 : IntKind.i64.wrap 1 = 1 := rfl
     simp at ir sl hc hl
     simp [hl,trunc,zm1,low,lowH,ir,cp,q,sl,hc,w1,ze1,oneC,AV.cells,zj1,cut,zd8]
     simpa using ih2 _ _ _
    ·obtain ⟨g,hg⟩ : ∃ g,t[i - 1]? = some g := ⟨_,List.getElem?_eq_getElem (by omega)⟩
     have hlast := yx4 (by omega) hg
     have g0 : ltB 0 (i : Int) = true := zb8.2 (by omega)
     have ws : IntKind.i64.wrap ((i : Int) - 1) = (i : Int) - 1 := i64_in _ ⟨by omega,by omega⟩
     have hgr := zi0 hg
     have ir2 : ∀ st h,opV G st h (.iadr 2) (some [.sl (za1 t),.int .i64 ((i : Int) - 1)]) = some (.fptr [.str g.path,.str g.dig] 0,h) := fun st h => by
      have e : ((i : Int) - 1) = ((i - 1 : Nat) : Int) := by omega
      rw [e,zb2 rfl]; simp [za7,zc9,hgr]
     have bg : zc2 .geq (.str g.path) (.str f.path) = some (.bool (!(Op.bytesLess g.path f.path))) := rfl
     rw [hlast] at hr
     cases hbl : Op.bytesLess g.path f.path with
     | false =>
      rw [hbl] at bg
      simp only [Option.map_some,hbl,if_true] at hr
      subst hr
      simp [hl,trunc,zm1,low,lowH,ir,ir2,cp,q,g0,ws,bg,ze1,oneC,AV.cells,zj1,cut,zd8,zb0,Rs.tree_Check]
     | true =>
      rw [hbl] at bg
      simp only [Option.map_some,hbl,Option.some.injEq,Bool.true_eq_false,if_false] at hr
      cases b with
      | true =>
       simp only [if_true] at hr
       subst hr
       simp [hl,trunc,zm1,low,lowH,ir,ir2,cp,q,g0,ws,bg,sl,hc,ze1,oneC,AV.cells,zj1,cut,zd8,zb0,Rs.tree_Check]
      | false =>
       simp only [Bool.false_eq_true,if_false] at hr
       have ih2 := fun X Y H' => ih X Y H' hr
       simp [hl,trunc,zm1,low,lowH,ir,ir2,cp,q,g0,ws,bg,sl,hc,hw,ze1,oneC,AV.cells,zj1,cut,zd8]
       simpa using ih2 _ _ _
def zj9 : List AV → Option AV
 | [.sl rows] => match zs1 zl7 rows with
  | some t => if t.all fun f => decide (f.path.length < 4294967281) then some (.int .i64 (zr8 t)) else none
  | none => none
 | _ => none
theorem ys3 {G G0 : Gam} (hP : G Fn.tree_Path = some (.pure zz4)) (hC : G Fn.q9 = some (.gen (zm2 (zf5 true 2 G0)))) (h1 : G0 Fn.q76 = some (.gen (zm2 yj5))) :
  ∀ args r,zj9 args = some r → wpM G Mc.tree_Check (zb0 Rs.tree_Check r) [] (za2 Ks.tree_Check args) [] := by
 intro args r hF
 unfold zj9 at hF
 split at hF
 ·rename_i rows
  split at hF
  ·rename_i t hdec
   split at hF
   ·rename_i hall
    injection hF with hF; subst hF
    have hrows : rows = za1 t := zl2 (fun r x => zh7) hdec
    subst hrows
    have ht : ∀ f ∈ t,f.path.length < 4294967281 := by simpa using hall
    rw [zc8]
    by_cases hb : 64 < t.length
    ·have q : ltB 64 (t.length : Int) = true := zb8.2 (by omega)
     have e : zr8 t = 10 := by unfold zr8; rw [if_pos hb]
     rw [e]
     simp [Mc.tree_Check,za2,Ks.tree_Check,ze1,q,zb0,Rs.tree_Check]
    ·have q : ltB 64 (t.length : Int) = false := ze4.2 (by omega)
     have e : zr8 t = zm8 [] t := by unfold zr8; rw [if_neg hb]
     rw [e]
     have ih := yP3 G G0 hP hC h1 t (by omega) ht _ t 0 .junk .junk [] rfl (by omega) rfl
     simp [Mc.tree_Check,za2,Ks.tree_Check,ze1,q]
     simpa using ih
   ·cases hF
  ·cases hF
 ·cases hF
end Go.Proofs.YtopiadllkglamaaGreatDoor
