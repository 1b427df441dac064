/- Manifests: the size of a file,read by the reference. Manifests: a line for a file,read by the program. Manifests: read by the reference. Manifests: read by the program. -/
import Derived.Test.YtopiadllkglamaaGreatDoorWPkC
import Derived.Test.YtopiadllkglamaaGreatDoorWRmB
import Derived.Test.YtopiadllkglamaaGreatDoorWRmI
import Derived.Sort.Walk0
namespace Go.Proofs.YtopiadllkglamaaGreatDoor
open Go.RowKit Go.IntWalk
end Go.Proofs.YtopiadllkglamaaGreatDoor
namespace Go.Proofs.YtopiadllkglamaaGreatDoor
open Go.RowKit Go.IntWalk
theorem xQ5 {s : Bs} {v : Int} (h : Lib.atoiAll s = .ok v) : -9223372036854775808 ≤ v ∧ v ≤ 9223372036854775807 := by
 unfold Lib.atoiAll at h
 split at h
 ·cases h
 ·simp only at h
  split at h
  ·cases h
  ·cases h
  ·split at h
   ·cases h
   ·split at h
    ·cases h
    ·injection h with h
     split at h <;> omega
def ze2 (w : List Bs) : Bool := match w with
 | [_,p,s,d] => zf1 p && yk6 s && decide ((zd9 d).2 = 0)
 | _ => false
def zR2 : List AV → Option AV
 | [.sl rows] => match zu9 rows with
  | some ws => if ws.length ≤ 1000000 ∧ (ws.all fun w => decide (w.length ≤ 1000000)) = true then some (.bool (ze2 ws)) else none
  | none => none
 | _ => none
theorem xx1 {G : Gam} {T : TypeId} (hP : G Fn.tree_Path = some (.pure zz4)) (hA : G Fn.q77 = some (.pure (zU1 T))) (hD : G Fn.q74 = some (.pure zl9)) (hI : G Fn.q75 = some (.pure zE9)) : ∀ args r,zR2 args = some r → wpM G Mc.bundle_file (zb0 Rs.bundle_file r) [] (za2 Ks.bundle_file args) [] := by
 intro args r hF
 unfold zR2 at hF
 split at hF
 ·rename_i rows
  split at hF
  ·rename_i ws hd
   have := zP6 hd; subst this
   split at hF
   ·rename_i hc
    obtain ⟨hl,hall⟩ := hc
    injection hF with hF; subst hF
    rw [zc8]
    by_cases h4 : ws.length = 4
    ·match ws,h4 with
     | [k,p,s,d],_ =>
      have hall' := List.all_eq_true.1 hall
      have hp : p.length ≤ 1000000 := by simpa using hall' p (by simp)
      have hs : s.length ≤ 1000000 := by simpa using hall' s (by simp)
      have hdl : d.length ≤ 1000000 := by simpa using hall' d (by simp)
      have c1 : ∀ st h,opV G st h (.call Fn.tree_Path) (some [.str p]) = some (.int .i64 (if zf1 p then 0 else 2),h) := fun st h => zb5 hP (us := [.str p]) rfl (zw5 (A := eStr) (R := eInt) (x := p) (r := if zf1 p then 0 else 2) (by rw [if_pos (by omega)])) (.inl rfl)
      have c2 : ∀ st h,opV G st h (.call Fn.q77) (some [.str s]) = some (zw1 T s,h) := fun st h => zb5 hA (us := [.str s]) rfl (by simp only [zU1]; rw [if_pos (by omega)]) (.inr rfl)
      have c3 : ∀ st h,opV G st h (.call Fn.q74) (some [.str d]) = some (.tup [.str (zd9 d).1,.int .i64 (zd9 d).2],h) := fun st h => zb5 hD (us := [.str d]) rfl (by simp only [zl9]; rw [if_pos (by unfold big; omega)]) (.inl rfl)
      have n1 : ∀ st h,opV G st h (.isnili false) (some [.nili]) = some (.bool true,h) := fun st h => by rw [zb2 rfl]; rfl
      have n2 : ∀ st h T,opV G st h (.isnili false) (some [.iface T .junk]) = some (.bool false,h) := fun st h T => by rw [zb2 rfl]; rfl
      have i1 : ∀ h,zc9 1 h (.sl (zx8 [k,p,s,d])) (.int .i64 1) = some (.fptr [.str p] 0) := fun h => rfl
      have i2 : ∀ h,zc9 1 h (.sl (zx8 [k,p,s,d])) (.int .i64 2) = some (.fptr [.str s] 0) := fun h => rfl
      have i3 : ∀ h,zc9 1 h (.sl (zx8 [k,p,s,d])) (.int .i64 3) = some (.fptr [.str d] 0) := fun h => rfl
      have hlen : (zx8 [k,p,s,d]).length = 4 := rfl
      cases hpo : zf1 p with
      | false =>
       rw [hpo] at c1
       simp [Mc.bundle_file,Ks.bundle_file,za2,hlen,i1,c1,eqB,ze2,hpo,zb0,Rs.bundle_file]
      | true =>
       rw [hpo] at c1
       rcases zS4 (Lib.atoiAll s) with ⟨v,hat⟩ | hat | hat
       ·have hv := xQ5 hat
        have e1 : zw1 T s = .tup [.int .i64 v,.nili] := by unfold zw1; rw [hat]
        rw [e1] at c2
        have c4 : ∀ st h,opV G st h (.call Fn.q75) (some [.int .i64 v]) = some (.str (Lib.itoa v),h) := fun st h => zb5 hI (us := [.int .i64 v]) rfl (by simp [zE9,hv.1,hv.2]) (.inl rfl)
        have en : ze2 [k,p,s,d] = ((Lib.itoa v == s) && (!ltB v 0) && (!ltB 65536 v) && eqB (zd9 d).2 0) := by
         have e2 : decide (Lib.itoa v = s) = (Lib.itoa v == s) := by by_cases h : Lib.itoa v = s <;> simp [h]
         have e3 : decide (0 ≤ v) = !ltB v 0 := by by_cases h : 0 ≤ v <;> simp [ltB,h] <;> omega
         have e4 : decide (v ≤ 65536) = !ltB 65536 v := by by_cases h : v ≤ 65536 <;> simp [ltB,h] <;> omega
         simp only [ze2,hpo,yk6,hat,e2,e3,e4,eqB,Bool.true_and]
        rw [en]
        cases ha : (Lib.itoa v == s) <;> cases hb : ltB v 0 <;> cases hc : ltB 65536 v <;> cases hd : eqB (zd9 d).2 0 <;>
         simp [Mc.bundle_file,Ks.bundle_file,za2,hlen,i1,i2,i3,c1,c2,c3,c4,n1,xz6,zb0,Rs.bundle_file,ha,hb,hc,hd]
       ·have e1 : zw1 T s = .tup [.int .i64 (Lib.atoiSat s),.iface T .junk] := by unfold zw1; rw [hat]
        rw [e1] at c2
        have en : ze2 [k,p,s,d] = false := by simp [ze2,yk6,hat]
        rw [en]
        simp [Mc.bundle_file,Ks.bundle_file,za2,hlen,i1,i2,i3,c1,c2,c3,n2,zb0,Rs.bundle_file]
       ·have e1 : zw1 T s = .tup [.int .i64 0,.iface T .junk] := by unfold zw1; rw [hat]; rfl
        rw [e1] at c2
        have e0 : yk6 s = false := by unfold yk6; rw [hat]; rfl
        have en : ze2 [k,p,s,d] = false := by simp [ze2,e0]
        rw [en]
        simp [Mc.bundle_file,Ks.bundle_file,za2,hlen,i1,i2,i3,c1,c2,c3,n2,zb0,Rs.bundle_file]
    ·have q : eqB (ws.length : Int) 4 = false := zj4.2 (by omega)
     have en : ze2 ws = false := by
      unfold ze2
      split
      ·simp at h4
      ·rfl
     rw [en]
     simp [-List.length_map,Mc.bundle_file,Ks.bundle_file,za2,q,zb0,Rs.bundle_file]
   ·cases hF
  ·cases hF
 ·cases hF
end Go.Proofs.YtopiadllkglamaaGreatDoor
namespace Go.Proofs.YtopiadllkglamaaGreatDoor
open Go.RowKit Go.IntWalk
def zq4 (o : Option (Bs × Bs)) : AV := match o with
 | some (a,b) => .tup [.str a,.str b,.int .i64 0]
 | none => .tup [.str [],.str [],.int .i64 17]
theorem leqS (p l : Bs) : (Op.bytesLess p l || p == l) = !Op.bytesLess l p := by
 rw [Go.Proofs.bytesLess_eq,Go.Proofs.bytesLess_eq]
 by_cases h : l < p
 ·have h1 : ¬ p < l := fun h2 => List.lt_irrefl p (List.lt_trans h2 h)
  have h2 : ¬ p = l := fun e => by subst e; exact List.lt_irrefl p h
  simp [h,h1,h2]
 ·rcases List.le_iff_lt_or_eq.1 (List.not_lt.1 h) with h1 | h1
  ·simp [h,h1]
  ·subst h1; simp [h]
theorem wc0 : eqB 2 0 = false := rfl
theorem yE8 {ws : List (List Bs)} {i : Nat} {w : List Bs} (hw : ws[i]? = some w) (h : Heap) : zc9 1 h (.sl (ws.map rowW)) (.int .i64 i) = some (.fptr [.sl (w.map rStr.enc)] 0) := zD3 (row := [.sl (w.map rStr.enc)]) (by simp [hw,rowW]) rfl
def zm3 : Bs := [111,117,116,112,117,116]
def zm4 : Bs := [98,105,110,97,114,121]
def zu5 : List (List Bs) → Option (Bs × Bs × List (List Bs))
 | [k0,o] :: [k1,hx] :: r => if k0 = zm3 ∧ k1 = zm4 ∧ zf1 o = true ∧ (zd9 hx).2 = 0 then some (o,hx,r) else none
 | _ => none
def yT9 (s : Bs) : Option (Bs × Bs) := match zA1 s with
 | some l => (zu5 l).bind fun q => if zp1 ze2 ⟨0,0,[],[]⟩ q.2.2 then some (q.1,q.2.1) else none
 | none => none
end Go.Proofs.YtopiadllkglamaaGreatDoor
namespace Go.Proofs.YtopiadllkglamaaGreatDoor
open Go.RowKit Go.IntWalk
theorem xI9 {G : Gam} {s : Bool} {h : Heap} {w a : Nat} {rows : List (List AV)} {k : IntKind} (h1 : a ≤ rows.length) (h2 : zc3 w rows = true) : opV G s h (.slc (some w) true false false) (some [.sl rows,.int k a]) = some (.sl (rows.drop a),h) := by
 rw [zb2 rfl]
 have h1' : (a : Int) ≤ rows.length := by omega
 simp [za7,zs5,slc1,yk4,zw9,h1,h2]
theorem yt9 : ∀ {ls : List Bs} {l : List (List Bs)},yu0 ls = some l → l.length ≤ ls.length ∧ ∀ w ∈ l,∃ y ∈ ls,w = za9 32 y
 | [],l,h => by simp [yu0] at h
 | [x],l,h => by
  simp only [yu0] at h
  split at h
  ·injection h with h; subst h; exact ⟨by simp,by simp⟩
  ·cases h
 | x :: m :: ls,l,h => by
  simp only [yu0] at h
  split at h
  ·cases h
  ·obtain ⟨q,h1,rfl⟩ := Option.map_eq_some_iff.1 h
   obtain ⟨h2,h3⟩ := yt9 h1
   refine ⟨by simp only [List.length_cons] at h2 ⊢; omega,fun w hw => ?_⟩
   rcases List.mem_cons.1 hw with rfl | hw
   ·exact ⟨x,by simp,rfl⟩
   ·obtain ⟨y,hy,rfl⟩ := h3 w hw
    exact ⟨y,by simp [hy],rfl⟩
theorem yT6 {s : Bs} {l : List (List Bs)} (hs : s.length ≤ 900000) (h : zA1 s = some l) : l.length ≤ 1000000 ∧ ∀ w ∈ l,w ≠ [] ∧ w.length ≤ 1000000 ∧ ∀ x ∈ w,x.length ≤ 900000 := by
 obtain ⟨h1,h2⟩ := yt9 h
 have := zu0 10 s
 refine ⟨by omega,fun w hw => ?_⟩
 obtain ⟨y,hy,rfl⟩ := h2 w hw
 have h3 := zI2 10 s y hy
 have h4 := zu0 32 y
 exact ⟨zq2 32 y,by omega,fun x hx => by have := zI2 32 y x hx; omega⟩
theorem zT1 {k : Bs} {tl : List Bs} (h : ze2 (k :: tl) = true) : ∃ p z d,tl = [p,z,d] := by
 match tl,h with
 | [p,z,d],_ => exact ⟨p,z,d,rfl⟩
 | [],h => simp [ze2] at h
 | [_],h => simp [ze2] at h
 | [_,_],h => simp [ze2] at h
 | _ :: _ :: _ :: _ :: _,h => simp [ze2] at h
theorem yE4 {ok : List Bs → Bool} {sd : Stand} {tl : List Bs} {rest : List (List Bs)} (n0 : sd.ns = 0) : zp1 ok sd ((ze9 :: tl) :: rest) = (if ok (ze9 :: tl) = false then false else if Op.bytesLess sd.lp (tl.headD []) = false then false else if sd.np = 64 then false else zp1 ok { sd with np := sd.np + 1,lp := tl.headD [] } rest) := by
 rw [zp1,if_pos ⟨rfl,n0⟩]
 cases tl <;> rfl
theorem yE3 {ok : List Bs → Bool} {sd : Stand} {tl : List Bs} {rest : List (List Bs)} : zp1 ok sd ((zd1 :: tl) :: rest) = (if ok (zd1 :: tl) = false then false else if Op.bytesLess sd.ls (tl.headD []) = false then false else if sd.ns = 64 then false else zp1 ok { sd with ns := sd.ns + 1,ls := tl.headD [] } rest) := by
 rw [zp1,if_neg (show ¬ ((zd1 :: tl).headD [] = ze9 ∧ sd.ns = 0) from fun h => absurd (show zd1 = ze9 from h.1) (by decide)),if_pos (show (zd1 :: tl).headD [] = zd1 from rfl)]
 cases tl <;> rfl
theorem xa5 {ok : List Bs → Bool} {sd : Stand} {k : Bs} {tl : List Bs} {rest : List (List Bs)} (h1 : ¬ (k = ze9 ∧ sd.ns = 0)) (h2 : k ≠ zd1) : zp1 ok sd ((k :: tl) :: rest) = false := by
 rw [zp1,if_neg (show ¬ ((k :: tl).headD [] = ze9 ∧ sd.ns = 0) from h1),if_neg (show ¬ (k :: tl).headD [] = zd1 from h2)]
def xI4 : MC := .seq (.reg [
  ⟨none,some 144,false,.mv,[.t 7]⟩,
  ⟨none,some 145,false,.mv,[.t 8]⟩,
  ⟨none,some 2,true,.mv,[.t 144]⟩,
  ⟨none,some 3,true,.mv,[.t 145]⟩,
  ⟨none,some 4,true,.mv,[.c (.int .i64 0)]⟩])
 .ret
structure MapsP (sd : Stand) (ml : List (Bs × Bs)) (mn : List (Bs × Nat)) : Prop where
 lp : (zB8 ze9 ml).getD [] = sd.lp
 ls : (zB8 zd1 ml).getD [] = sd.ls
 np : (zB8 ze9 mn).getD 0 = sd.np
 ns : (zB8 zd1 mn).getD 0 = sd.ns
section
variable {G : Gam} {ml : List (Bs × Bs)} {mn : List (Bs × Nat)}
theorem lkL {key x : Bs} (h : (zB8 key ml).getD [] = x) (b : Blk) : ∀ st,opV G st [.map (encM eStr ml),b] (.look .s false (.str [])) (some [.map 0,.str key]) = some (.str x,[.map (encM eStr ml),b]) := fun st => by
 rw [xd1 (V := eStr) (m := ml) rfl,← h]; cases zB8 key ml <;> rfl
theorem lkN {key : Bs} {n : Nat} (h : (zB8 key mn).getD 0 = n) (a : Blk) : ∀ st,opV G st [a,.map (encM eNat mn)] (.look .s false (.int .i64 0)) (some [.map 1,.str key]) = some (.int .i64 n,[a,.map (encM eNat mn)]) := fun st => by
 rw [xd1 (V := eNat) (m := mn) rfl,← h]; cases zB8 key mn <;> rfl
theorem upL (key p : Bs) (b : Blk) : ∀ st,opV G st [.map (encM eStr ml),b] (.mapup .s) (some [.map 0,.str key,.str p]) = some (.junk,[.map (encM eStr (putM key p ml)),b]) := fun st => by
 exact yM3 (V := eStr) (m := ml) (v := p) (h := [.map (encM eStr ml),b]) rfl rfl rfl rfl
theorem upN (key : Bs) (n : Nat) (a : Blk) : ∀ st,opV G st [a,.map (encM eNat mn)] (.mapup .s) (some [.map 1,.str key,.int .i64 ((n : Int) + 1)]) = some (.junk,[a,.map (encM eNat (putM key (n + 1) mn))]) := fun st => by
 exact yM3 (V := eNat) (m := mn) (v := n + 1) (h := [a,.map (encM eNat mn)]) rfl rfl rfl rfl
end
theorem yP5 (G : Gam) (hF : G Fn.bundle_file = some (.pure zR2)) (s o hx : Bs) (A : List (List AV)) (r : List (List Bs))
  (hlen : r.length ≤ 1000000) (hall : ∀ w ∈ r,w ≠ [] ∧ w.length ≤ 1000000 ∧ ∀ x ∈ w,x.length ≤ 1000000) :
  ∀ (rest : List (List Bs)) (i : Nat) (sd : Stand) (ml : List (Bs × Bs)) (mn : List (Bs × Nat)),r.drop i = rest → MapsP sd ml mn → sd.np ≤ 64 → sd.ns ≤ 64 →
  zi3 G [14,15] Mc.bundle_Read_L0 2 [.blk 0,.seq xI4] (zb0 Rs.bundle_Read (zq4 (if zp1 ze2 sd rest then some (o,hx) else none)))
   [(0,.str s),(2,.str []),(3,.str []),(4,.int .i64 0),(5,.sl A),(6,.bool true),(7,.str o),(8,.str hx),(10,.int .i64 0),(11,.map 0),(12,.map 1),(14,.junk),(15,.junk),(83,.sl (r.map rowW)),(84,.int .i64 r.length),(85,.int .i64 i)] [.map (encM eStr ml),.map (encM eNat mn)]
 | [],i,sd,ml,mn,hd,hm,h1,h2 => by
  have hi2 := zh4 hd
  have hl : ltB (i : Int) (r.length : Int) = false := ze4.2 (by omega)
  refine zb3 (Mc.bundle_Read_L0.eq_1) ?_
  rw [zf3 (n := 2) rfl]
  generalize hL : r.map rowW = L
  simp [hl,xI4,zp1,zq4,zb0,Rs.bundle_Read]
 | w :: rest,i,sd,ml,mn,hd,hm,hn1,hn2 => by
  obtain ⟨hlt,hw,hwd⟩ := zf0 hd
  have hl : ltB (i : Int) (r.length : Int) = true := zb8.2 (by omega)
  obtain ⟨hne,hwl,hwx⟩ := hall w (List.mem_of_getElem? hw)
  have a0 : ∀ h,zc9 1 h (.sl (r.map rowW)) (.int .i64 i) = some (.fptr [.sl (w.map rStr.enc)] 0) := fun h => yE8 hw h
  have wi : IntKind.i64.wrap ((i : Int) + 1) = (i : Int) + 1 := zn1 (by unfold big; omega)
  have wn : IntKind.i64.wrap ((sd.np : Int) + 1) = (sd.np : Int) + 1 := zn1 (by unfold big; omega)
  have ws : IntKind.i64.wrap ((sd.ns : Int) + 1) = (sd.ns : Int) + 1 := zn1 (by unfold big; omega)
  have cf : ∀ st h,opV G st h (.call Fn.bundle_file) (some [.sl (w.map rStr.enc)]) = some (.bool (ze2 w),h) := fun st h => zb5 hF (us := [.sl (w.map rStr.enc)]) (by simp [zj6,view]) (by
   have e : zu9 (w.map rStr.enc) = some w := by
    clear hd hw hne hwl hwx a0
    induction w with
    | nil => rfl
    | cons x r ih => simp [zu9] at ih ⊢; simpa using ih
   simp only [zR2,e]
   rw [if_pos ⟨hwl,List.all_eq_true.2 fun x hx => by have := hwx x hx; simpa using this⟩]) (.inl rfl)
  have ih := fun sd' ml' mn' (h0 : MapsP sd' ml' mn') h1 h2 => yP5 G hF s o hx A r hlen hall rest (i + 1) sd' ml' mn' hwd h0 h1 h2
  refine zb3 (Mc.bundle_Read_L0.eq_1) ?_
  rw [zf3 (n := 2) rfl]
  match w,hne with
  | k :: tl,_ =>
   have b0 : ∀ h,zc9 1 h (.sl ((k :: tl).map rStr.enc)) (.int .i64 0) = some (.fptr [.str k] 0) := fun h => rfl
   generalize hL : r.map rowW = L at a0 ih ⊢
   have lkS : ∀ a st,opV G st [a,.map (encM eNat mn)] (.look .s false (.int .i64 0)) (some [.map 1,.str [115,111,117,114,99,101]]) = some (.int .i64 sd.ns,[a,.map (encM eNat mn)]) := fun a st => lkN (key := zd1) hm.ns a st
   by_cases k1 : k = ze9
   ·subst k1
    have q1 : ((ze9 : Bs) == [112,97,112,101,114]) = true := by decide
    have q2 : ((ze9 : Bs) == [115,111,117,114,99,101]) = false := by decide
    by_cases n0 : sd.ns = 0
    ·have lkS0 : ∀ a st,opV G st [a,.map (encM eNat mn)] (.look .s false (.int .i64 0)) (some [.map 1,.str [115,111,117,114,99,101]]) = some (.int .i64 0,[a,.map (encM eNat mn)]) := fun a st => by rw [lkS,n0]; rfl
     have lk1 := fun b => lkL (G := G) (ml := ml) hm.lp b
     have lk2 := fun a => lkN (G := G) (mn := mn) hm.np a
     cases hfo : ze2 (ze9 :: tl) with
     | false =>
      rw [hfo] at cf
      rw [show zp1 ze2 sd ((ze9 :: tl) :: rest) = false from by rw [yE4 n0,if_pos hfo]]
      generalize hW : (ze9 :: tl : List Bs).map rStr.enc = WR at a0 b0 cf
      simp [hl,a0,b0,q1,lkS0,cf,zq4,zb0,Rs.bundle_Read]
     | true =>
      rw [hfo] at cf
      obtain ⟨p,z,d,rfl⟩ := zT1 hfo
      have hsc : zp1 ze2 sd ([ze9,p,z,d] :: rest) = (if Op.bytesLess sd.lp p = false then false else if sd.np = 64 then false else zp1 ze2 { sd with np := sd.np + 1,lp := p } rest) := by
       rw [yE4 n0,if_neg (by rw [hfo]; simp)]; rfl
      have b1 : ∀ h,zc9 1 h (.sl (([ze9,p,z,d] : List Bs).map rStr.enc)) (.int .i64 1) = some (.fptr [.str p] 0) := fun h => rfl
      obtain ⟨WR,hW⟩ : ∃ WR,WR = ([ze9,p,z,d] : List Bs).map rStr.enc := ⟨_,rfl⟩
      rw [← hW] at a0 b0 b1 cf
      by_cases hbl : Op.bytesLess sd.lp p = false
      ·rw [if_pos hbl] at hsc
       rw [hsc]
       simp [hl,a0,b0,b1,q1,lkS0,cf,lk1,leqS,hbl,zq4,zb0,Rs.bundle_Read]
      ·rw [if_neg hbl] at hsc
       replace hbl : Op.bytesLess sd.lp p = true := by simpa using hbl
       by_cases n6 : sd.np = 64
       ·rw [if_pos n6] at hsc
        rw [hsc]
        rw [n6] at lk2
        simp [hl,a0,b0,b1,q1,lkS0,cf,lk1,lk2,leqS,hbl,zq4,zb0,Rs.bundle_Read]
       ·rw [if_neg n6] at hsc
        rw [hsc]
        have e6 : eqB (sd.np : Int) 64 = false := zj4.2 (by omega)
        have ih2 := ih { sd with np := sd.np + 1,lp := p } (putM ze9 p ml) (putM ze9 (sd.np + 1) mn) ⟨by rw [zp4,if_pos rfl]; rfl,by rw [zp4,if_neg (by decide)]; exact hm.ls,by rw [zp4,if_pos rfl]; rfl,by rw [zp4,if_neg (by decide)]; exact hm.ns⟩ (by simp only; omega) hn2
        simp [hl,a0,b0,b1,q1,lkS0,cf,lk1,lk2,leqS,hbl,e6,upL,upN,wn,wi]
        refine ze8 ?_
        simpa [zc0,zf3 (n := 2) (show ([_,_] : Heap).length = 2 from rfl)] using ih2
    ·rw [xa5 (fun h => n0 h.2) (by decide)]
     have e1 : eqB (sd.ns : Int) 0 = false := zj4.2 (by omega)
     generalize hW : (ze9 :: tl : List Bs).map rStr.enc = WR at a0 b0 cf
     simp [hl,a0,b0,q1,q2,lkS,e1,zq4,zb0,Rs.bundle_Read]
   ·have q1 : (k == ([112,97,112,101,114] : Bs)) = false := beq_eq_false_iff_ne.2 k1
    by_cases k2 : k = zd1
    ·subst k2
     have q2 : ((zd1 : Bs) == [115,111,117,114,99,101]) = true := by decide
     have lk1 := fun b => lkL (G := G) (ml := ml) hm.ls b
     have lk2 := fun a => lkN (G := G) (mn := mn) hm.ns a
     cases hfo : ze2 (zd1 :: tl) with
     | false =>
      rw [hfo] at cf
      rw [show zp1 ze2 sd ((zd1 :: tl) :: rest) = false from by rw [yE3,if_pos hfo]]
      generalize hW : (zd1 :: tl : List Bs).map rStr.enc = WR at a0 b0 cf
      simp [hl,a0,b0,q1,q2,cf,zq4,zb0,Rs.bundle_Read]
     | true =>
      rw [hfo] at cf
      obtain ⟨p,z,d,rfl⟩ := zT1 hfo
      have hsc : zp1 ze2 sd ([zd1,p,z,d] :: rest) = (if Op.bytesLess sd.ls p = false then false else if sd.ns = 64 then false else zp1 ze2 { sd with ns := sd.ns + 1,ls := p } rest) := by
       rw [yE3,if_neg (by rw [hfo]; simp)]; rfl
      have b1 : ∀ h,zc9 1 h (.sl (([zd1,p,z,d] : List Bs).map rStr.enc)) (.int .i64 1) = some (.fptr [.str p] 0) := fun h => rfl
      obtain ⟨WR,hW⟩ : ∃ WR,WR = ([zd1,p,z,d] : List Bs).map rStr.enc := ⟨_,rfl⟩
      rw [← hW] at a0 b0 b1 cf
      by_cases hbl : Op.bytesLess sd.ls p = false
      ·rw [if_pos hbl] at hsc
       rw [hsc]
       simp [hl,a0,b0,b1,q1,q2,cf,lk1,leqS,hbl,zq4,zb0,Rs.bundle_Read]
      ·rw [if_neg hbl] at hsc
       replace hbl : Op.bytesLess sd.ls p = true := by simpa using hbl
       by_cases n6 : sd.ns = 64
       ·rw [if_pos n6] at hsc
        rw [hsc]
        rw [n6] at lk2
        simp [hl,a0,b0,b1,q1,q2,cf,lk1,lk2,leqS,hbl,zq4,zb0,Rs.bundle_Read]
       ·rw [if_neg n6] at hsc
        rw [hsc]
        have e6 : eqB (sd.ns : Int) 64 = false := zj4.2 (by omega)
        have ih2 := ih { sd with ns := sd.ns + 1,ls := p } (putM zd1 p ml) (putM zd1 (sd.ns + 1) mn) ⟨by rw [zp4,if_neg (by decide)]; exact hm.lp,by rw [zp4,if_pos rfl]; rfl,by rw [zp4,if_neg (by decide)]; exact hm.np,by rw [zp4,if_pos rfl]; rfl⟩ hn1 (by simp only; omega)
        simp [hl,a0,b0,b1,q1,q2,cf,lk1,lk2,leqS,hbl,e6,upL,upN,ws,wi]
        refine ze8 ?_
        simpa [zc0,zf3 (n := 2) (show ([_,_] : Heap).length = 2 from rfl)] using ih2
    ·have q2 : (k == ([115,111,117,114,99,101] : Bs)) = false := beq_eq_false_iff_ne.2 k2
     rw [xa5 (fun h => k1 h.1) k2]
     generalize hW : (k :: tl : List Bs).map rStr.enc = WR at a0 b0 cf
     simp [hl,a0,b0,q1,q2,zq4,zb0,Rs.bundle_Read]
def yb6 : List AV → Option AV
 | [.str s] => if s.length ≤ 900000 then some (zq4 (yT9 s)) else none
 | _ => none
theorem xR3 {G : Gam} (hW : G Fn.bundle_rows = some (.pure yC7)) (hP : G Fn.tree_Path = some (.pure zz4)) (hF0 : G Fn.bundle_file = some (.pure zR2)) (hD : G Fn.q74 = some (.pure zl9)) : ∀ args r,yb6 args = some r → wpM G Mc.bundle_Read (zb0 Rs.bundle_Read r) [] (za2 Ks.bundle_Read args) [] := by
 intro args r hF
 unfold yb6 at hF
 split at hF
 ·rename_i s
  split at hF
  ·rename_i hb
   injection hF with hF; subst hF
   have c0 : ∀ st h,opV G st h (.call Fn.bundle_rows) (some [.str s]) = some (zx2 (zA1 s),h) := fun st h => zb5 hW (us := [.str s]) rfl (by simp only [yC7]; rw [if_pos (by omega)]) (.inr rfl)
   rw [zc8]
   cases hwe : zA1 s with
   | none =>
    rw [hwe] at c0
    simp [Mc.bundle_Read,Ks.bundle_Read,za2,c0,zx2,yT9,hwe,zq4,zb0,Rs.bundle_Read]
   | some l =>
    obtain ⟨hll,hlw⟩ := yT6 hb hwe
    have hre : yT9 s = (zu5 l).bind fun q => if zp1 ze2 ⟨0,0,[],[]⟩ q.2.2 then some (q.1,q.2.1) else none := by unfold yT9; rw [hwe]
    rw [hre]
    rw [hwe] at c0
    have fail : zu5 l = none → zq4 ((zu5 l).bind fun q => if zp1 ze2 ⟨0,0,[],[]⟩ q.2.2 then some (q.1,q.2.1) else none) = .tup [.str [],.str [],.int .i64 17] := fun e => by rw [e]; rfl
    match l,hll,hlw with
    | [],_,_ =>
     rw [fail rfl]
     simp [Mc.bundle_Read,Ks.bundle_Read,za2,c0,zx2,ltB,zb0,Rs.bundle_Read]
    | [w],_,_ =>
     rw [fail (by unfold zu5; split <;> simp_all)]
     simp [Mc.bundle_Read,Ks.bundle_Read,za2,c0,zx2,ltB,zb0,Rs.bundle_Read]
    | w0 :: w1 :: r0,hll,hlw =>
     have h2 : ltB (((w0 :: w1 :: r0).map rowW).length : Int) 2 = false := ze4.2 (by simp; omega)
     have a0 : ∀ h,zc9 1 h (.sl ((w0 :: w1 :: r0).map rowW)) (.int .i64 0) = some (.fptr [.sl (w0.map rStr.enc)] 0) := fun h => yE8 (i := 0) rfl h
     have a1 : ∀ h,zc9 1 h (.sl ((w0 :: w1 :: r0).map rowW)) (.int .i64 1) = some (.fptr [.sl (w1.map rStr.enc)] 0) := fun h => yE8 (i := 1) rfl h
     simp only [zx2] at c0
     by_cases l0 : w0.length = 2
     ·match w0,l0 with
      | [k0,o],_ =>
       have ho : o.length ≤ 900000 := (hlw [k0,o] (by simp)).2.2 o (by simp)
       have b0 : ∀ h,zc9 1 h (.sl ([k0,o].map rStr.enc)) (.int .i64 0) = some (.fptr [.str k0] 0) := fun h => rfl
       have b1 : ∀ h,zc9 1 h (.sl ([k0,o].map rStr.enc)) (.int .i64 1) = some (.fptr [.str o] 0) := fun h => rfl
       have hl2 : (([k0,o] : List Bs).map rStr.enc).length = 2 := rfl
       have c1 : ∀ st h,opV G st h (.call Fn.tree_Path) (some [.str o]) = some (.int .i64 (if zf1 o then 0 else 2),h) := fun st h => zb5 hP (us := [.str o]) rfl (zw5 (A := eStr) (R := eInt) (x := o) (r := if zf1 o then 0 else 2) (by rw [if_pos (by omega)])) (.inl rfl)
       by_cases l1 : w1.length = 2
       ·match w1,l1 with
        | [k1,hx],_ =>
         have hhx : hx.length ≤ 900000 := (hlw [k1,hx] (by simp)).2.2 hx (by simp)
         have d0 : ∀ h,zc9 1 h (.sl ([k1,hx].map rStr.enc)) (.int .i64 0) = some (.fptr [.str k1] 0) := fun h => rfl
         have d1 : ∀ h,zc9 1 h (.sl ([k1,hx].map rStr.enc)) (.int .i64 1) = some (.fptr [.str hx] 0) := fun h => rfl
         have hl3 : (([k1,hx] : List Bs).map rStr.enc).length = 2 := rfl
         have c2 : ∀ st h,opV G st h (.call Fn.q74) (some [.str hx]) = some (.tup [.str (zd9 hx).1,.int .i64 (zd9 hx).2],h) := fun st h => zb5 hD (us := [.str hx]) rfl (by simp only [zl9]; rw [if_pos (by unfold big; omega)]) (.inl rfl)
         have sl : ∀ st h,opV G st h (.slc (some 1) true false false) (some [.sl (([k0,o] :: [k1,hx] :: r0).map rowW),.int .i64 2]) = some (.sl (r0.map rowW),h) := fun st h => xI9 (a := 2) (by simp) (zI3 (e := rowW) (fun _ => rfl) _)
         by_cases k0e : k0 = zm3
         ·have q0 : (k0 == ([111,117,116,112,117,116] : Bs)) = true := beq_iff_eq.2 k0e
          by_cases k1e : k1 = zm4
          ·have q1 : (k1 == ([98,105,110,97,114,121] : Bs)) = true := beq_iff_eq.2 k1e
           by_cases hde : (zd9 hx).2 = 0
           ·have e0 : eqB (zd9 hx).2 0 = true := xm1.2 hde
            rw [hde] at c2
            cases hpo : zf1 o with
            | false =>
             rw [hpo] at c1
             rw [fail (by simp [zu5,hpo])]
             generalize hL : ([k0,o] :: [k1,hx] :: r0).map rowW = L at c0 h2 a0 a1 ⊢
             generalize hW0 : ([k0,o] : List Bs).map rStr.enc = W0 at a0 b0 b1 hl2
             generalize hW1 : ([k1,hx] : List Bs).map rStr.enc = W1 at a1 d0 d1 hl3
             simp [Mc.bundle_Read,Ks.bundle_Read,za2,c0,h2,a0,a1,b0,b1,d0,d1,hl2,hl3,q0,q1,c1,c2,wc0,zb0,Rs.bundle_Read]
            | true =>
             rw [hpo] at c1
             have hh : zu5 ([k0,o] :: [k1,hx] :: r0) = some (o,hx,r0) := by simp [zu5,k0e,k1e,hpo,hde]
             rw [hh]
             simp only [Option.bind_some]
             have ih := yP5 G hF0 s o hx (([k0,o] :: [k1,hx] :: r0).map rowW) r0 (by simp at hll; omega) (fun w hw => ⟨(hlw w (by simp [hw])).1,(hlw w (by simp [hw])).2.1,fun x hx' => by have := (hlw w (by simp [hw])).2.2 x hx'; omega⟩) r0 0 ⟨0,0,[],[]⟩ [] [] rfl ⟨rfl,rfl,rfl,rfl⟩ (by simp) (by simp)
             have hr0 : (r0.map rowW).length = r0.length := by simp
             generalize hL : ([k0,o] :: [k1,hx] :: r0).map rowW = L at c0 h2 a0 a1 sl ih ⊢
             generalize hW0 : ([k0,o] : List Bs).map rStr.enc = W0 at a0 b0 b1 hl2
             generalize hW1 : ([k1,hx] : List Bs).map rStr.enc = W1 at a1 d0 d1 hl3
             generalize hR : r0.map rowW = R at sl ih hr0
             simp [Mc.bundle_Read,Ks.bundle_Read,za2,c0,h2,a0,a1,b0,b1,d0,d1,hl2,hl3,q0,q1,c1,c2,sl,hr0]
             simpa [xI4,encM] using ih
           ·have e0 : eqB (zd9 hx).2 0 = false := zj4.2 hde
            rw [fail (by simp [zu5,hde])]
            generalize hL : ([k0,o] :: [k1,hx] :: r0).map rowW = L at c0 h2 a0 a1 ⊢
            generalize hW0 : ([k0,o] : List Bs).map rStr.enc = W0 at a0 b0 b1 hl2
            generalize hW1 : ([k1,hx] : List Bs).map rStr.enc = W1 at a1 d0 d1 hl3
            simp [Mc.bundle_Read,Ks.bundle_Read,za2,c0,h2,a0,a1,b0,b1,d0,d1,hl2,hl3,q0,q1,c2,e0,zb0,Rs.bundle_Read]
          ·have q1 : (k1 == ([98,105,110,97,114,121] : Bs)) = false := beq_eq_false_iff_ne.2 k1e
           rw [fail (by simp [zu5,k1e])]
           generalize hL : ([k0,o] :: [k1,hx] :: r0).map rowW = L at c0 h2 a0 a1 ⊢
           generalize hW0 : ([k0,o] : List Bs).map rStr.enc = W0 at a0 b0 b1 hl2
           generalize hW1 : ([k1,hx] : List Bs).map rStr.enc = W1 at a1 d0 d1 hl3
           simp [Mc.bundle_Read,Ks.bundle_Read,za2,c0,h2,a0,a1,b0,d0,hl2,hl3,q0,q1,zb0,Rs.bundle_Read]
         ·have q0 : (k0 == ([111,117,116,112,117,116] : Bs)) = false := beq_eq_false_iff_ne.2 k0e
          rw [fail (by simp [zu5,k0e])]
          generalize hL : ([k0,o] :: [k1,hx] :: r0).map rowW = L at c0 h2 a0 a1 ⊢
          generalize hW0 : ([k0,o] : List Bs).map rStr.enc = W0 at a0 b0 b1 hl2
          generalize hW1 : ([k1,hx] : List Bs).map rStr.enc = W1 at a1 d0 d1 hl3
          simp [Mc.bundle_Read,Ks.bundle_Read,za2,c0,h2,a0,a1,b0,hl2,hl3,q0,zb0,Rs.bundle_Read]
       ·have q2 : eqB (w1.length : Int) 2 = false := zj4.2 (by omega)
        rw [fail (by unfold zu5; split <;> simp_all)]
        generalize hL : ([k0,o] :: w1 :: r0).map rowW = L at c0 h2 a0 a1 ⊢
        generalize hW0 : ([k0,o] : List Bs).map rStr.enc = W0 at a0 b0 b1 hl2
        simp [Mc.bundle_Read,Ks.bundle_Read,za2,c0,h2,a0,a1,hl2,q2,zb0,Rs.bundle_Read]
     ·have q2 : eqB (w0.length : Int) 2 = false := zj4.2 (by omega)
      rw [fail (by unfold zu5; split <;> simp_all)]
      generalize hL : (w0 :: w1 :: r0).map rowW = L at c0 h2 a0 a1 ⊢
      simp [Mc.bundle_Read,Ks.bundle_Read,za2,c0,h2,a0,q2,zb0,Rs.bundle_Read]
  ·cases hF
 ·cases hF
end Go.Proofs.YtopiadllkglamaaGreatDoor
