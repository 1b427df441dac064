/- build.Sandbox.all,visible: resolved,by program (Gen.lean). build.Sandbox.visible: what it says of a path; it looks at the sandbox alone. build.Sandbox.all: the files that are wanted,in the order of -/
import Derived.Test.YtopiadllkglamaaGreatDoorWRecIds
import Derived.Test.YtopiadllkglamaaGreatDoorWRmJ
import Derived.Test.YtopiadllkglamaaGreatDoorWAm10
import Derived.Test.YtopiadllkglamaaGreatDoorWRmD
import Derived.Test.YtopiadllkglamaaGreatDoorWAm11
namespace Go.Proofs.YtopiadllkglamaaGreatDoor
def Ks.q34 : List Nat := [0,1,4,5,6,7,12]
def Rs.q34 : List RV := [.tmp 4]
def Dl.q34 : List (List Nat) := [[6,7]]
def Mc.q34_L0 : MC := (.seq (.rgn (.t 12) (some 13) false [
  iz 14 (.ext 0) [.t 13]])
 (.seq (.ite (.t 14)
  .skip
  (.exit 0))
 (.blk 1 (.seq (.reg [
  iz 15 .ent [.t 12],
  iz 16 (.ext 0) [.t 15],
  iz 17 (.ext 1) [.t 15],
  kz 6 .mv [.t 16],
  kz 7 .mv [.t 17]])
 (.seq (.reg [
  iz 18 .mv [.t 1],
  iz 19 .mv [.t 6],
  iz 20 .callv [.t 18,.t 19]])
 (.ite (.t 20)
  (.reg [
   iz 21 .mv [.t 5],
   iz 22 .mv [.t 6],
   iz 23 .mv [.t 7],
   iz 24 (.bld [.str [],.str []] [(0,1),(1,1)]) [.t 22,.t 23],
   iz 25 (.bsl false 2) [.t 24],
   iz 26 (.app false 2 32) [.t 21,.t 25],
   kz 5 .mv [.t 26]])
  .skip))))))
def Mc.q34 : MC := (.seq (.reg [
  kz 4 (.newnil 2) []])
 (.seq (.reg [
  kz 5 (.newnil 2) []])
 (.seq (.seq (.reg [
  iz 8 .mv [.t 0],
  iz 9 .nilck [.t 8],
  iz 10 (.fadr 1) [.t 9],
  iz 11 (.ld 1 false) [.t 10],
  kz 12 .rngm [.t 11]])
 (.blk 0 (.loop [6,7] Mc.q34_L0)))
 (.seq (.reg [
  iz 27 .mv [.t 5],
  iz 28 (.call Fn.q12) [.t 27,.c (.fn Fn.q29 [])]])
 (.seq (.reg [
  iz 29 .mv [.t 5],
  kz 4 .mv [.t 29]])
 .ret)))))
def Ks.q23 : List Nat := [0,1,4]
def Rs.q23 : List RV := [.tmp 4]
def Dl.q23 : List (List Nat) := []
def Mc.q23 : MC := (.seq (.reg [
  kz 4 .mv [.c (.bool false)]])
 (.seq (.rgd [
  iz 5 .mv [.t 1],
  iz 6 .mv [.t 0],
  iz 7 .nilck [.t 6],
  iz 8 (.fadr 0) [.t 7],
  iz 9 (.ld 1 false) [.t 8],
  iz 10 .mv [.t 0],
  iz 11 .nilck [.t 10],
  iz 12 (.fadr 4) [.t 11],
  iz 13 (.ld 1 false) [.t 12],
  iz 14 (.iadr 4) [.t 9,.t 13],
  iz 15 (.fadr 0) [.t 14],
  iz 16 (.ld 1 false) [.t 15],
  iz 17 (.bin .add) [.t 16,.c (.str [47])],
  iz 18 (.call Fn.q41) [.t 5,.t 17],
  iz 19 .mv [.t 18],
  ⟨some (19,false),some 20,false,.mv,[.t 0]⟩,
  ⟨some (19,false),some 21,false,.nilck,[.t 20]⟩,
  ⟨some (19,false),some 22,false,.fadr 2,[.t 21]⟩,
  ⟨some (19,false),some 23,false,.ld 1 false,[.t 22]⟩,
  ⟨some (19,false),some 24,false,.mv,[.t 1]⟩,
  ⟨some (19,false),some 25,false,.call Fn.q14,[.t 23,.t 24]⟩,
  iz 26 .pick [.t 19,.c (.bool true),.t 25],
  kz 4 .mv [.t 26]])
 .ret))
def Ks.q22 : List Nat := [2]
def Rs.q22 : List RV := [.tmp 2]
def Dl.q22 : List (List Nat) := []
def Mc.q22 : MC := (.seq (.reg [
  kz 2 .mv [.c (.bool false)]])
 (.seq (.reg [
  kz 2 .mv [.c (.bool true)]])
 .ret))
end Go.Proofs.YtopiadllkglamaaGreatDoor
namespace Go.Proofs.YtopiadllkglamaaGreatDoor
open Go.RowKit Go.IntWalk
theorem zG0 {h t : Heap} {l : Nat} {b : Blk} (hb : h[l]? = some b) : (h ++ t)[l]? = some b := by
 rw [List.getElem?_append_left (List.getElem?_eq_some_iff.1 hb).1]; exact hb
theorem zD1 {size : Nat} {agg : Bool} {h t : Heap} {a v : AV} (hl : za8 size agg h a = some v) : za8 size agg (h ++ t) a = some v := by
 cases a with
 | ptr l off =>
  simp only [za8] at hl ⊢
  split at hl
  ·rename_i vs hx; rw [zG0 hx]; exact hl
  ·cases hl
 | eptr l ver i off =>
  simp only [za8] at hl ⊢
  split at hl
  ·rename_i ne tg sz ver' rows wr hx; rw [zG0 hx]; exact hl
  ·cases hl
 | fptr row off => exact hl
 | _ => simp [za8] at hl
theorem xf5 {size : Nat} {h t : Heap} {x i v : AV} (hl : zc9 size h x i = some v) : zc9 size (h ++ t) x i = some v := by
 unfold zc9 at hl ⊢
 split at hl
 ·exact hl
 ·exact hl
 ·split at hl
  ·rename_i hx; rw [zG0 hx]; exact hl
  ·cases hl
 ·cases hl
theorem yE6 {h t : Heap} {x : AV} {rows : List (List AV)} (hl : zb7 h x = some rows) : zb7 (h ++ t) x = some rows := by
 unfold zb7 at hl ⊢
 split at hl
 ·exact hl
 ·exact hl
 ·exact hl
 ·split at hl
  ·rename_i hx; rw [zG0 hx]; exact hl
  ·cases hl
 ·cases hl
theorem yg2 {size : Nat} {h : Heap} {x i e : AV} (hl : zc9 size h x i = some e) : (∃ row,e = .fptr row 0) ∨ ∃ l v j,e = .eptr l v j 0 := by
 unfold zc9 at hl
 split at hl
 ·split at hl
  ·split at hl
   ·split at hl
    ·injection hl with hl; exact .inl ⟨_,hl.symm⟩
    ·cases hl
   ·cases hl
  ·cases hl
 ·split at hl
  ·split at hl
   ·split at hl
    ·injection hl with hl; exact .inl ⟨_,hl.symm⟩
    ·cases hl
   ·cases hl
  ·cases hl
 ·split at hl
  ·split at hl
   ·split at hl
    ·split at hl
     ·injection hl with hl; exact .inr ⟨_,_,_,hl.symm⟩
     ·cases hl
    ·cases hl
   ·cases hl
  ·cases hl
 ·cases hl
def zA0 (h : Heap) (x : AV) : Option (List (List AV)) := match x with
 | .sl rows => some rows
 | .tsl rows => some rows
 | .nils => some []
 | .own l v n => zb7 h (.own l v n)
 | _ => none
theorem yl0 {h : Heap} {x : AV} {rows : List (List AV)} (hl : zA0 h x = some rows) : view h x = some (.sl rows) := by
 unfold zA0 at hl
 split at hl
 ·injection hl with hl; subst hl; rfl
 ·injection hl with hl; subst hl; rfl
 ·injection hl with hl; subst hl; rfl
 ·simp [view,hl]
 ·cases hl
theorem yl1 {h t : Heap} {x : AV} {rows : List (List AV)} (hl : zA0 h x = some rows) : zA0 (h ++ t) x = some rows := by
 unfold zA0 at hl ⊢
 split at hl
 ·exact hl
 ·exact hl
 ·exact hl
 ·exact yE6 hl
 ·cases hl
def zQ9 : List AV → Heap → Option AV
 | [.ptr l 0,.str s],h => match za8 1 false h (.ptr l 0),za8 1 false h (.ptr l 4),za8 1 false h (.ptr l 2) with
  | some pk,some (.int .i64 a),some inst => (match zc9 4 h pk (.int .i64 a),zA0 h inst with
   | some e,some rows => (match za8 1 false h e,zg9 [.sl rows,.str s] with
    | some (.str nm),some (.bool c) => if nm.length + 1 ≤ zj2 then some (.bool (Lib.hasPrefix s (nm ++ [47]) || c)) else none
    | _,_ => none)
   | _,_ => none)
  | _,_,_ => none
 | _,_ => none
theorem yC5 {args : List AV} {h : Heap} {r : AV} (hF : zQ9 args h = some r) : ∃ l s pk a inst e rows nm c,args = [.ptr l 0,.str s] ∧ za8 1 false h (.ptr l 0) = some pk ∧ za8 1 false h (.ptr l 4) = some (.int .i64 a) ∧ za8 1 false h (.ptr l 2) = some inst ∧
  zc9 4 h pk (.int .i64 a) = some e ∧ zA0 h inst = some rows ∧ za8 1 false h e = some (.str nm) ∧ zg9 [.sl rows,.str s] = some (.bool c) ∧ nm.length + 1 ≤ zj2 ∧ r = .bool (Lib.hasPrefix s (nm ++ [47]) || c) := by
 unfold zQ9 at hF
 split at hF
 ·rename_i l s
  split at hF
  ·rename_i pk a inst h1 h2 h3
   split at hF
   ·rename_i e rows h4 h5
    split at hF
    ·rename_i nm c h6 h7
     split at hF
     ·rename_i h8
      injection hF with hF
      exact ⟨l,s,pk,a,inst,e,rows,nm,c,rfl,h1,h2,h3,h4,h5,h6,h7,h8,hF.symm⟩
     ·cases hF
    ·cases hF
   ·cases hF
  ·cases hF
 ·cases hF
theorem yY3 {args : List AV} {h t : Heap} {r : AV} (hF : zQ9 args h = some r) : zQ9 args (h ++ t) = some r := by
 obtain ⟨l,s,pk,a,inst,e,rows,nm,c,rfl,h1,h2,h3,h4,h5,h6,h7,h8,rfl⟩ := yC5 hF
 simp only [zQ9,zD1 h1,zD1 h2,zD1 h3,xf5 h4,yl1 h5,zD1 h6,h7]
 rw [if_pos h8]
@[simp] theorem xE0 {G : Gam} {s : Bool} {h : Heap} {l off : Nat} : opV G s h .nilck (some [.ptr l off]) = some (.ptr l off,h) := by rw [zb2 rfl]; rfl
theorem xV7 {G : Gam} (hP : G Fn.q41 = some (.pure zf7)) (hK : G Fn.q14 = some (.pure zg9)) : ∀ args h r,zQ9 args h = some r → wpM G Mc.q23 (zq8 Rs.q23 r h) [] (za2 Ks.q23 args) h := by
 intro args h r hF
 obtain ⟨l,s,pk,a,inst,e,rows,nm,c,rfl,h1,h2,h3,h4,h5,h6,h7,h8,rfl⟩ := yC5 hF
 have c1 : ∀ st,opV G st h (.call Fn.q41) (some [.str s,.str (nm ++ [47])]) = some (.bool (Lib.hasPrefix s (nm ++ [47])),h) := fun st => zb5 hP (us := [.str s,.str (nm ++ [47])]) rfl rfl (.inl rfl)
 have c2 : ∀ st,opV G st h (.call Fn.q14) (some [inst,.str s]) = some (.bool c,h) := fun st => zb5 hK (us := [.sl rows,.str s]) (by simp [zj6,yl0 h5,view]) h7 (.inl rfl)
 have h8' : nm.length + [(47 : UInt8)].length ≤ zj2 := h8
 rw [zc8]
 cases hp : Lib.hasPrefix s (nm ++ [47]) with
 | true =>
  rw [hp] at c1
  rcases yg2 h4 with ⟨row,rfl⟩ | ⟨k,v,j,rfl⟩ <;>
   simp [Mc.q23,za2,Ks.q23,h1,h2,h4,h6,h8,c1,zq8,Rs.q23,-za8]
 | false =>
  rw [hp] at c1
  rcases yg2 h4 with ⟨row,rfl⟩ | ⟨k,v,j,rfl⟩ <;>
   simp [Mc.q23,za2,Ks.q23,h1,h2,h3,h4,h6,h8,c1,c2,zq8,Rs.q23,-za8]
end Go.Proofs.YtopiadllkglamaaGreatDoor
namespace Go.Proofs.YtopiadllkglamaaGreatDoor
open Go.RowKit Go.IntWalk
def zA6 (vis r1 : FuncId) (h : Heap) (like : AV) (s : Bs) : Option Bool := match like with
 | .fn f [] => if f = r1 then some true else none
 | .mth f x => if f = vis then (match zQ9 [x,.str s] h with
  | some (.bool b) => some b
  | _ => none) else none
 | _ => none
def yC4 : List AV → Option AV
 | [.str _] => some (.bool true)
 | _ => none
def AH (h : Heap) (m n : Nat) (ts : List PD) (seen : List Nat) (x : Heap) : Heap := h ++ (.arr 2 0 [] true :: .arr 2 ts.length (ts.map zv3) true :: .mit (some m) n seen n :: x)
section
variable {h x : Heap} {m n l : Nat} {ts : List PD} {seen : List Nat} {t : PD} {b : Blk}
theorem xH6 (hb : h[l]? = some b) : (AH h m n ts seen x)[l]? = some b := zG0 hb
theorem wg8 : (AH h m n ts seen x)[h.length + 1]? = some (.arr 2 ts.length (ts.map zv3) true) := by
 unfold AH; rw [List.getElem?_append_right (by simp)]; simp
theorem xH5 : (AH h m n ts seen x)[h.length + 2]? = some (.mit (some m) n seen n) := by
 unfold AH; rw [List.getElem?_append_right (by simp)]; simp
theorem xS0 {s' : List Nat} : (AH h m n ts seen x).set (h.length + 2) (.mit (some m) n s' n) = AH h m n ts s' x := by
 unfold AH; rw [List.set_append_right _ _ (by simp)]; simp
theorem wg9 : (AH h m n ts seen x).set (h.length + 1) (.arr 2 (ts ++ [t]).length ((ts ++ [t]).map zv3) true) = AH h m n (ts ++ [t]) seen x := by
 unfold AH; rw [List.set_append_right _ _ (by simp)]; simp
theorem yR6 {fr : List (Nat × AV)} (hlow : lowH h.length h = true) (hm : m < h.length) (hf : zm1 (h.length + 3) fr = true) : trunc (h.length + 3) fr (AH h m n ts seen x) = AH h m n ts seen [] := by
 have e : AH h m n ts seen x = AH h m n ts seen [] ++ x := by simp [AH]
 rw [e]
 refine yY8 (by simp [AH]) hf ?_
 unfold AH
 refine xx4 (xL0 (by omega) hlow) ?_
 simp [lowH,lowB]; omega
theorem xH4 {es : List (AV × AV)} (hm : h[m]? = some (.map es)) (hn : es.length = n) : zG6 (AH h m n ts seen x) (h.length + 2) = (match left n seen with
  | [] => some [(.tup [.bool false],(AH h m n ts seen x).set (h.length + 2) .dead)]
  | i :: is => some ((i :: is).map fun i => (.tup [.bool true,(es[i]?.getD (.junk,.junk)).1,(es[i]?.getD (.junk,.junk)).2],AH h m n ts (seen ++ [i]) x))) := by
 unfold zG6
 rw [xH5]
 simp only [xH6 hm,hn,and_self,if_true,left]
 split <;> rename_i hl
 ·rw [hl]
 ·rw [hl]; simp only [xS0]
end
def yY5 (vis r1 : FuncId) : List AV → Heap → Option (AV × Heap)
 | [.ptr l 0,like],h => match za8 1 false h (.ptr l 1) with
  | some (.map m) => (match h[m]? with
   | some (.map es) => (match decE es with
    | some ps => if (ps.all fun p => (zA6 vis r1 h like p.1).isSome) = true ∧ zE1 ps = true ∧ ps.length ≤ 1000 ∧ (ps.filter fun p => zA6 vis r1 h like p.1 == some true) ≠ [] then
      some (.sl ((zp0 (ps.filter fun p => zA6 vis r1 h like p.1 == some true)).map zv3),h) else none
    | none => none)
   | _ => none)
  | _ => none
 | _,_ => none
theorem yx2 {G : Gam} {vis r1 : FuncId} (hV : G vis = some (.gen (zm2 zQ9))) (hR : G r1 = some (.pure yC4)) {h t : Heap} {like : AV} {s : Bs} {b : Bool} (hl : zA6 vis r1 h like s = some b) : opV G false (h ++ t) .callv (some [like,.str s]) = some (.bool b,h ++ t) := by
 unfold zA6 at hl
 split at hl
 ·rename_i f
  split at hl
  ·rename_i hf; subst hf
   injection hl with hl; subst hl
   rw [xw2]
   exact yb2 hR (us := [.str s]) rfl rfl rfl
  ·cases hl
 ·rename_i f x
  split at hl
  ·rename_i hf; subst hf
   split at hl
   ·rename_i b' hv
    injection hl with hl; subst hl
    have : opV G false (h ++ t) .callv (some [.mth f x,.str s]) = zl8 G f [x,.str s] (h ++ t) := by rw [zi1 rfl]; rfl
    rw [this,yp2 hV]
    simp only [zm2,yY3 hv,Option.map_some]
   ·cases hl
  ·cases hl
 ·cases hl
theorem xV3 {G : Gam} : ∀ args r,yC4 args = some r → wpM G Mc.q22 (zb0 Rs.q22 r) [] (za2 Ks.q22 args) [] := by
 intro args r hF
 unfold yC4 at hF
 split at hF
 ·injection hF with hF; subst hF
  rw [zc8]
  simp [Mc.q22,Ks.q22,za2,zb0,Rs.q22]
 ·cases hF
def yD5 : MC := .seq (.reg [
  ⟨none,some 27,false,.mv,[.t 5]⟩,
  ⟨none,some 28,false,.call Fn.q12,[.t 27,.c (.fn Fn.q29 [])]⟩])
 (.seq (.reg [
  ⟨none,some 29,false,.mv,[.t 5]⟩,
  ⟨none,some 4,true,.mv,[.t 29]⟩])
 .ret)
section
variable {G : Gam} {h : Heap} {m n : Nat} {ts : List PD} {seen : List Nat}
def AD (h : Heap) (ts : List PD) : Heap := h ++ [.arr 2 0 [] true,.arr 2 ts.length (ts.map zv3) true,.dead]
theorem xS1 : (AH h m n ts seen []).set (h.length + 2) .dead = AD h ts := by
 unfold AH AD; rw [List.set_append_right _ _ (by simp)]; simp
theorem wh1 : (AD h ts)[h.length + 1]? = some (.arr 2 ts.length (ts.map zv3) true) := by
 unfold AD; rw [List.getElem?_append_right (by simp)]; simp
theorem wh0 {b : Blk} : (AD h ts).set (h.length + 1) b = h ++ [.arr 2 0 [] true,b,.dead] := by
 unfold AD; rw [List.set_append_right _ _ (by simp)]; simp
theorem xN5 {es : List (AV × AV)} {i : Nat} {a b : AV} (hm : h[m]? = some (.map es)) (hn : es.length = n) (hi : es[i]? = some (a,b)) : yH2 (AH h m n ts (seen ++ [i]) []) (h.length + 2) = some (.tup [a,b]) := by
 unfold yH2
 rw [xH5]
 simp [xH6 hm,hn,hi]
end
@[simp] theorem xS9 {G : Gam} {s : Bool} {h : Heap} {l : Nat} : opV G s h .ent (some [.ptr l 0]) = (yH2 h l).map fun v => (v,h) := by rw [zb2 rfl]; rfl
theorem xQ9 {h : Heap} {a c : Blk} {ver : Nat} {rows : List (List AV)} {n : Nat} (hn : n = rows.length) : frz (h ++ [a,.arr 2 ver rows true,c]) (.own (h.length + 1) ver n) = some (.sl rows,h ++ [a,.arr 2 ver rows false,c]) := by
 have e : (h ++ [a,Blk.arr 2 ver rows true,c])[h.length + 1]? = some (.arr 2 ver rows true) := by
  rw [List.getElem?_append_right (by simp)]; simp
 subst hn
 simp [frz,view,zb7,owns,zc6,zm6]
theorem xr0 {G : Gam} {gs : List FuncId} (hS : G Fn.q12 = some (.gen (zr7 gs))) (hg : gs.contains Fn.q29 = true)
  {h : Heap} {l m : Nat} {like : AV} {ps : List PD} {q : Bs → Bool} {ts : List PD} {seen : List Nat} (hlow : lowH h.length h = true) (hml : m < h.length) (hfr : zm1 (h.length + 3) [(0,AV.ptr l 0),(1,like),(4,.own h.length 0 0),(5,.own (h.length + 1) ts.length ts.length),(6,.junk),(7,.junk),(12,.ptr (h.length + 2) 0)] = true)
  (hm : h[m]? = some (.map (ps.map yz1))) (h0 : left ps.length seen = []) (hnd : seen.Nodup) (hs : ∀ i ∈ seen,i < ps.length) (hts : ts = pick ps q seen) (hd : zE1 ps = true) (hlen : ps.length ≤ 1000) (_hne : (ps.filter fun p => q p.1) ≠ []) :
  zi3 G [6,7] Mc.q34_L0 (h.length + 3) [.blk 0,.seq yD5] (yg5 h.length Rs.q34 (.sl ((zp0 (ps.filter fun p => q p.1)).map zv3)) h)
   [(0,.ptr l 0),(1,like),(4,.own h.length 0 0),(5,.own (h.length + 1) ts.length ts.length),(6,.junk),(7,.junk),(12,.ptr (h.length + 2) 0)] (AH h m ps.length ts seen []) := by
 have hperm : ts.Perm (ps.filter fun p => q p.1) := by rw [hts]; exact xv6 hnd hs (xx9 h0)
 have hdf : zE1 (ps.filter fun p => q p.1) = true := yH3 hd
 have hdt : zE1 ts = true := yW3 hperm.symm hdf
 have hsort : zp0 ts = zp0 (ps.filter fun p => q p.1) := yd6 hdf ((zu1 ts).trans hperm) (zz6 ts)
 have hlen1 : ts.length ≤ ps.length := by rw [hperm.length_eq]; exact List.length_filter_le _ _
 have hbig : ts.length ≤ big := by unfold big; omega
 have hcall : opV G false (AD h ts) (.call Fn.q12) (some [.own (h.length + 1) ts.length ts.length,.fn Fn.q29 []]) = some (.tup [],h ++ [.arr 2 0 [] true,.arr 2 ts.length ((zp0 ts).map zv3) true,.dead]) := by
  rw [zg1 hS]
  unfold zr7
  simp only [wh1,yP0,hdt]
  rw [if_pos ⟨hg,trivial,trivial,hbig,trivial⟩,wh0]
 rw [hsort] at hcall
 refine zb3 (Mc.q34_L0.eq_1) ?_
 rw [show zc0 [6,7] [(0,AV.ptr l 0),(1,like),(4,.own h.length 0 0),(5,.own (h.length + 1) ts.length ts.length),(6,.junk),(7,.junk),(12,.ptr (h.length + 2) 0)] = [(0,AV.ptr l 0),(1,like),(4,.own h.length 0 0),(5,.own (h.length + 1) ts.length ts.length),(6,.junk),(7,.junk),(12,.ptr (h.length + 2) 0)] from rfl,yR6 hlow hml hfr]
 rw [yO0,xE7]
 show altM G (some 13) false _ _ _ _ (zG6 (AH h m ps.length ts seen []) (h.length + 2))
 rw [xH4 hm (by simp),h0]
 intro r hr
 rcases List.mem_singleton.1 hr with rfl
 rw [xS1]
 simp [yD5,hcall,yg5,xH3,Rs.q34]
 refine ⟨_,xQ9 (by rw [← hsort,List.length_map,(zu1 ts).length_eq]),yV4,hlow⟩
theorem wf3 (G : Gam) {vis r1 : FuncId} {gs : List FuncId} (hV : G vis = some (.gen (zm2 zQ9))) (hR : G r1 = some (.pure yC4)) (hS : G Fn.q12 = some (.gen (zr7 gs))) (hg : gs.contains Fn.q29 = true)
  {h : Heap} {l m : Nat} {like : AV} {ps : List PD} (hl : l < h.length) (hlow : lowH h.length h = true) (hlk : low h.length like = true) (hm : h[m]? = some (.map (ps.map yz1))) (hlen : ps.length ≤ 1000) (hd : zE1 ps = true)
  (hall : ∀ p ∈ ps,zA6 vis r1 h like p.1 = some (zA6 vis r1 h like p.1 == some true)) (hne : (ps.filter fun p => zA6 vis r1 h like p.1 == some true) ≠ []) :
  ∀ (N : Nat) (seen : List Nat) (ts : List PD),(left ps.length seen).length ≤ N → seen.Nodup → (∀ i ∈ seen,i < ps.length) → ts = pick ps (fun s => zA6 vis r1 h like s == some true) seen →
  zi3 G [6,7] Mc.q34_L0 (h.length + 3) [.blk 0,.seq yD5] (yg5 h.length Rs.q34 (.sl ((zp0 (ps.filter fun p => zA6 vis r1 h like p.1 == some true)).map zv3)) h)
   [(0,.ptr l 0),(1,like),(4,.own h.length 0 0),(5,.own (h.length + 1) ts.length ts.length),(6,.junk),(7,.junk),(12,.ptr (h.length + 2) 0)] (AH h m ps.length ts seen []) := by
 intro N
 have hml : m < h.length := (List.getElem?_eq_some_iff.1 hm).1
 have hlk3 : low (h.length + 3) like = true := yN2 (by omega) hlk
 have hfr : ∀ ts : List PD,zm1 (h.length + 3) [(0,AV.ptr l 0),(1,like),(4,.own h.length 0 0),(5,.own (h.length + 1) ts.length ts.length),(6,.junk),(7,.junk),(12,.ptr (h.length + 2) 0)] = true := fun ts => by
  simp [zm1,low,hlk3]; omega
 induction N with
 | zero =>
  intro seen ts hN hnd hs hts
  have h0 : left ps.length seen = [] := List.eq_nil_of_length_eq_zero (by omega)
  exact xr0 (q := fun s => zA6 vis r1 h like s == some true) hS hg hlow hml (hfr ts) hm h0 hnd hs hts hd hlen hne
 | succ N ih =>
  intro seen ts hN hnd hs hts
  cases h0 : left ps.length seen with
  | nil => exact xr0 (q := fun s => zA6 vis r1 h like s == some true) hS hg hlow hml (hfr ts) hm h0 hnd hs hts hd hlen hne
  | cons i0 is0 =>
   refine zb3 (Mc.q34_L0.eq_1) ?_
   rw [show zc0 [6,7] [(0,AV.ptr l 0),(1,like),(4,.own h.length 0 0),(5,.own (h.length + 1) ts.length ts.length),(6,.junk),(7,.junk),(12,.ptr (h.length + 2) 0)] = [(0,AV.ptr l 0),(1,like),(4,.own h.length 0 0),(5,.own (h.length + 1) ts.length ts.length),(6,.junk),(7,.junk),(12,.ptr (h.length + 2) 0)] from rfl,yR6 hlow hml (hfr ts)]
   rw [yO0,xE7]
   show altM G (some 13) false _ _ _ _ (zG6 (AH h m ps.length ts seen []) (h.length + 2))
   rw [xH4 hm (by simp),h0]
   intro r hr
   obtain ⟨i,hi,rfl⟩ := List.mem_map.1 hr
   rw [← h0] at hi
   obtain ⟨hip,his⟩ := xy0.1 hi
   have hp : ps[i]? = some ps[i] := List.getElem?_eq_getElem hip
   generalize hpe : ps[i] = p at hp
   have hpm : p ∈ ps := by rw [← hpe]; exact List.getElem_mem hip
   have hes : (ps.map yz1)[i]? = some (.str p.1,.str p.2) := by simp [hp,yz1]
   have hent : yH2 (AH h m ps.length ts (seen ++ [i]) []) (h.length + 2) = some (.tup [.str p.1,.str p.2]) := xN5 hm (by simp) hes
   have hN' : (left ps.length (seen ++ [i])).length ≤ N := by have := xe7 hi; omega
   have hnd' : (seen ++ [i]).Nodup := by
    rw [List.nodup_append]; exact ⟨hnd,by simp,fun a ha b hb => by simp at hb; subst hb; exact fun e => his (e ▸ ha)⟩
   have hs' : ∀ j ∈ seen ++ [i],j < ps.length := fun j hj => by
    rcases List.mem_append.1 hj with hj | hj
    ·exact hs j hj
    ·simp at hj; subst hj; exact hip
   have hsn := xc1 (b := fun s => zA6 vis r1 h like s == some true) (seen := seen) hp
   rw [← hts] at hsn
   have hts1 : ts.length < big := by
    have : ts.length ≤ ps.length := by
     rw [hts]; unfold pick
     refine Nat.le_trans (List.length_filter_le _ _) ?_
     refine Nat.le_trans (List.length_filterMap_le _ _) ?_
     have hp : seen.Perm ((List.range ps.length).filter fun i => seen.contains i) := (List.perm_ext_iff_of_nodup hnd (List.nodup_range.filter _)).2 fun a => by
      simp only [List.mem_filter,List.mem_range,List.contains_iff_mem]
      exact ⟨fun ha => ⟨hs a ha,ha⟩,fun ha => ha.2⟩
     rw [hp.length_eq]
     exact Nat.le_trans (List.length_filter_le _ _) (by simp)
    unfold big; omega
   have hask := hall p hpm
   cases hb : (zA6 vis r1 h like p.1 == some true) with
   | true =>
    rw [hb] at hask
    have hc : opV G false (AH h m ps.length ts (seen ++ [i]) []) .callv (some [like,.str p.1]) = some (.bool true,AH h m ps.length ts (seen ++ [i]) []) := yx2 hV hR hask
    have ha : opV G false (AH h m ps.length ts (seen ++ [i]) []) (.app false 2 32) (some [.own (h.length + 1) ts.length ts.length,.tsl [[.str p.1,.str p.2]]]) = some (.own (h.length + 1) (ts ++ [p]).length (ts ++ [p]).length,AH h m ps.length (ts ++ [p]) (seen ++ [i]) []) := by
     have := ym8 (G := G) (s := false) (e := zv3) (n := 2) (b := 32) (x := p) (wg8 (h := h) (m := m) (n := ps.length) (ts := ts) (seen := seen ++ [i]) (x := [])) rfl (by omega) hts1
     rw [wg9] at this
     exact this
    rw [hb,if_pos rfl] at hsn
    have ih' := ih (seen ++ [i]) (ts ++ [p]) hN' hnd' hs' hsn.symm
    simp [hent,hc,ha,zj6,view,zc3,zt1,AV.cells,zC0]
    refine ze8 ?_
    rw [show ∀ a b c : AV,zc0 [6,7] [(0,AV.ptr l 0),(1,like),(4,.own h.length 0 0),(5,a),(6,b),(7,c),(12,.ptr (h.length + 2) 0)] = [(0,AV.ptr l 0),(1,like),(4,.own h.length 0 0),(5,a),(6,.junk),(7,.junk),(12,.ptr (h.length + 2) 0)] from fun _ _ _ => rfl]
    have hcut := yR6 (ts := ts ++ [p]) (n := ps.length) (seen := seen ++ [i]) (x := []) hlow hml (hfr (ts ++ [p]))
    simp only [List.length_append,List.length_cons,List.length_nil] at hcut ih'
    rw [hcut]
    exact ih'
   | false =>
    rw [hb] at hask
    have hc : opV G false (AH h m ps.length ts (seen ++ [i]) []) .callv (some [like,.str p.1]) = some (.bool false,AH h m ps.length ts (seen ++ [i]) []) := yx2 hV hR hask
    rw [hb,if_neg (by simp),List.append_nil] at hsn
    have ih' := ih (seen ++ [i]) ts hN' hnd' hs' hsn.symm
    simp [hent,hc]
    refine ze8 ?_
    rw [show ∀ a b c : AV,zc0 [6,7] [(0,AV.ptr l 0),(1,like),(4,.own h.length 0 0),(5,a),(6,b),(7,c),(12,.ptr (h.length + 2) 0)] = [(0,AV.ptr l 0),(1,like),(4,.own h.length 0 0),(5,a),(6,.junk),(7,.junk),(12,.ptr (h.length + 2) 0)] from fun _ _ _ => rfl]
    rw [yR6 hlow hml (hfr ts)]
    exact ih'
theorem xK1 {G : Gam} {h : Heap} {m : Nat} {es : List (AV × AV)} (hm : h[m]? = some (.map es)) : opV G false h .rngm (some [.map m]) = some (.ptr h.length 0,h ++ [.mit (some m) es.length [] es.length]) := by
 rw [zi1 rfl]; simp [zb1,hm]
theorem xL5 (n : Nat) (seen : List Nat) : (left n seen).length ≤ n := by
 unfold left; exact Nat.le_trans (List.length_filter_le _ _) (by simp)
theorem xs0 {vis r1 : FuncId} {args : List AV} {h h' : Heap} {r : AV} (hF : yY5 vis r1 args h = some (r,h')) : ∃ l like m ps,args = [.ptr l 0,like] ∧ za8 1 false h (.ptr l 1) = some (.map m) ∧ h[m]? = some (.map (ps.map yz1)) ∧
  (∀ p ∈ ps,zA6 vis r1 h like p.1 = some (zA6 vis r1 h like p.1 == some true)) ∧ zE1 ps = true ∧ ps.length ≤ 1000 ∧ (ps.filter fun p => zA6 vis r1 h like p.1 == some true) ≠ [] ∧ r = .sl ((zp0 (ps.filter fun p => zA6 vis r1 h like p.1 == some true)).map zv3) ∧ h = h' := by
 unfold yY5 at hF
 split at hF
 ·rename_i l like
  split at hF
  ·rename_i m h1
   split at hF
   ·rename_i es h2
    split at hF
    ·rename_i ps h3
     split at hF
     ·rename_i hc
      obtain ⟨c1,c2,c3,c4⟩ := hc
      injection hF with hF
      injection hF with e1 e2
      refine ⟨l,like,m,ps,rfl,h1,by rw [h2,xn4 h3],fun p hp => ?_,c2,c3,c4,e1.symm,e2⟩
      have := List.all_eq_true.1 c1 p hp
      cases hq : zA6 vis r1 h like p.1 with
      | none => rw [hq] at this; cases this
      | some b => cases b <;> rfl
     ·cases hF
    ·cases hF
   ·cases hF
  ·cases hF
 ·cases hF
theorem wf2 (G : Gam) {vis r1 : FuncId} {gs : List FuncId} (hV : G vis = some (.gen (zm2 zQ9))) (hR : G r1 = some (.pure yC4)) (hS : G Fn.q12 = some (.gen (zr7 gs))) (hg : gs.contains Fn.q29 = true) :
  ∀ args h r h',lowL h.length args = true → lowH h.length h = true → yY5 vis r1 args h = some (r,h') → wpM G Mc.q34 (yg5 h.length Rs.q34 r h') [] (za2 Ks.q34 args) h := by
 intro args h r h' hla hlow hF
 obtain ⟨l,like,m,ps,rfl,h1,h2,h3,h4,h5,h6,rfl,rfl⟩ := xs0 hF
 simp only [lowL,low,Bool.and_eq_true,decide_eq_true_eq,and_true] at hla
 rw [zc8]
 have e1 : za8 1 false (h ++ [.arr 2 0 [] true,.arr 2 0 [] true]) (.ptr l 1) = some (.map m) := zD1 h1
 have hlen : (h ++ [Blk.arr 2 0 [] true,Blk.arr 2 0 [] true] ++ [Blk.mit (some m) (ps.map yz1).length [] (ps.map yz1).length]) = AH h m ps.length [] [] [] := by simp [AH]
 have e2 : opV G false (h ++ [.arr 2 0 [] true,.arr 2 0 [] true]) .rngm (some [.map m]) = some (.ptr (h.length + 2) 0,AH h m ps.length [] [] []) := by
  rw [xK1 (zG0 h2),hlen]; simp
 have e3 : (AH h m ps.length [] [] []).length = h.length + 3 := by simp [AH]
 have hL := wf3 G hV hR hS hg hla.1 hlow hla.2 h2 h5 h4 h3 h6 ps.length [] [] (xL5 _ _) List.nodup_nil (fun _ hi => by cases hi) rfl
 simp [Mc.q34,za2,Ks.q34,e1,e2,e3,-za8]
 exact hL
end Go.Proofs.YtopiadllkglamaaGreatDoor
