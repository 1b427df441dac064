/- Functions that look at the heap that they are handed,and leave it as it is. Encodings of plain data,contracts over them; running code by contextual rewriting. Maps of plain data. -/
import Derived.Test.YtopiadllkglamaaGreatDoorWAm8
namespace Go.Proofs.YtopiadllkglamaaGreatDoor
open Go.RowKit
theorem xu9 {C D : Cx} (hle : C.Le D) {a : AV} {u u' : Value} (h : Rel C a u) (h' : Rel D a u') : Rel ⟨D.im,C.bl,C.ar⟩ a u' := by
 induction h generalizing u' with
 | bool b => rw [zg4 h']; exact .bool b
 | int k n => rw [zd4 h']; exact .int k n
 | str s => rw [zd7 h']; exact .str s
 | agg cs vs hs hh ih =>
  cases h' with
  | agg _ vs' hs' hh' =>
   exact .agg _ _ hs' fun i c v' hc hv' => by
    have hi : i < vs.size := by rw [← hs]; exact (List.getElem?_eq_some_iff.1 hc).1
    exact ih i c vs[i] hc (by simp [hi]) hle (hh' i c v' hc hv')
 | tup cs vs hs hh ih =>
  cases h' with
  | tup _ vs' hs' hh' =>
   exact .tup _ _ hs' fun i c v' hc hv' => by
    have hi : i < vs.size := by rw [← hs]; exact (List.getElem?_eq_some_iff.1 hc).1
    exact ih i c vs[i] hc (by simp [hi]) hle (hh' i c v' hc hv')
 | slnil =>
  cases h' with
  | slnil => exact .slnil
  | slz a cap => exact .slz a cap
  | sl _ b o cap size us h1 h2 h3 h4 => exact .sl _ b o cap size us h1 h2 h3 h4
 | slz a cap =>
  cases h' with
  | slnil => exact .slnil
  | slz a cap => exact .slz a cap
  | sl _ b o cap size us h1 h2 h3 h4 => exact .sl _ b o cap size us h1 h2 h3 h4
 | tslz a =>
  cases h' with
  | tslnil => exact .tslnil
  | tslz a => exact .tslz a
  | tsl _ b o size us h2 h3 h4 => exact .tsl _ b o size us h2 h3 h4
 | sl rows =>
  cases h' with
  | slnil => exact .slnil
  | slz a cap => exact .slz a cap
  | sl _ b o cap size us h1 h2 h3 h4 => exact .sl _ b o cap size us h1 h2 h3 h4
 | tsl rows =>
  cases h' with
  | tslnil => exact .tslnil
  | tslz a => exact .tslz a
  | tsl _ b o size us h2 h3 h4 => exact .tsl _ b o size us h2 h3 h4
 | tslnil =>
  cases h' with
  | tslnil => exact .tslnil
  | tslz a => exact .tslz a
  | tsl _ b o size us h2 h3 h4 => exact .tsl _ b o size us h2 h3 h4
 | nils => cases h'; exact .nils
 | ownnil l ver k =>
  cases h' with
  | ownnil _ _ k' => exact .ownnil l ver k
  | own _ _ _ r k' hn =>
   have := hle.ar _ _ _ k; rw [k'] at this; cases this
 | own l ver n r k hn =>
  cases h' with
  | ownnil _ _ k' => have := hle.ar _ _ _ k; rw [k'] at this; cases this
  | own _ _ _ r' k' hn' =>
   have := hle.ar _ _ _ k; rw [k'] at this
   injection this with this; injection this with this; subst this
   exact .own l ver n r' k hn'
 | ptr l off b k =>
  cases h' with
  | ptr _ _ b' k' =>
   have := hle.bl _ _ k; rw [k'] at this; injection this with this; subst this
   exact .ptr l off b' k
 | fptr row off =>
  cases h' with
  | fptr _ _ b o us h1 h2 => exact .fptr _ _ b o us h1 h2
 | eptr l ver i off r k =>
  cases h' with
  | eptr _ _ _ _ r' k' =>
   have := hle.ar _ _ _ k; rw [k'] at this
   injection this with this; injection this with this; subst this
   exact .eptr l ver i off r' k
 | gptr g off => cases h'; exact .gptr g off
 | nilp => cases h'; exact .nilp
 | map l b k =>
  cases h' with
  | map _ b' k' =>
   have := hle.bl _ _ k; rw [k'] at this; injection this with this; subst this
   exact .map l b' k
 | nilm => cases h'; exact .nilm
 | fn f caps vs hs hh ih =>
  cases h' with
  | fn _ _ vs' hs' hh' =>
   exact .fn _ _ _ hs' fun i c v' hc hv' => by
    have hi : i < vs.size := by rw [← hs]; exact (List.getElem?_eq_some_iff.1 hc).1
    exact ih i c vs[i] hc (by simp [hi]) hle (hh' i c v' hc hv')
 | mth f a v _ ih =>
  cases h' with
  | mth _ _ v' hh' => exact .mth f a v' (ih hle hh')
 | nilf => cases h'; exact .nilf
 | iface t a v _ ih =>
  cases h' with
  | iface _ _ x h => exact .iface _ _ x (ih hle h)
 | nili => cases h'; exact .nili
 | yld l b k =>
  cases h' with
  | yld _ b' k' =>
   have := hle.bl _ _ k; rw [k'] at this; injection this with this; subst this
   exact .yld l b' k
 | junk v => exact .junk _
theorem yv4 {C D : Cx} (hle : C.Le D) {as : List AV} {us us' : List Value} (h : RelL C as us) (h' : RelL D as us') : RelL ⟨D.im,C.bl,C.ar⟩ as us' := by
 refine ⟨h'.1,fun i c v' hc hv' => ?_⟩
 obtain ⟨v,_,k⟩ := h.get hc
 exact xu9 hle k (h'.2 i c v' hc hv')
theorem xy5 {B : Base} {C D : Cx} {h h2 : Heap} {w w' : World} (hi : Inv B C h w) (hd : Inv B D h2 w') (hle : C.Le D) (hp : ∀ (l : Nat) blk,h[l]? = some blk → h2[l]? = some blk) : Inv B ⟨D.im,C.bl,C.ar⟩ h w' := by
 have bo : ∀ (l : Nat) blk,za6 (⟨D.im,C.bl,C.ar⟩ : Cx) l blk = za6 C l blk := fun l blk => by cases blk <;> rfl
 refine ⟨hd.im,hd.one,fun l blk hb => ?_,fun l l' blk blk' b h1 h2 h3 h4 => hi.inj l l' blk blk' b h1 h2 (by rw [← bo]; exact h3) (by rw [← bo]; exact h4),hi.fr,hi.fv,hd.hB,hd.low,hd.gl,hd.tb,hi.rcl,⟨fun b o u x => hle.im _ _ _ (hi.cle.im _ _ _ x),hi.cle.bl,hi.cle.ar⟩⟩
 have k := hi.ok l blk hb
 have k2 := hd.ok l blk (hp l blk hb)
 cases blk with
 | cellsT tg vs =>
  obtain ⟨b,cur,e,h1,h2,h3,h4,h5,h6⟩ := k
  obtain ⟨b',cur',e',g1,g2,g3,g4,g5,g6⟩ := k2
  have := hle.bl _ _ h1; rw [g1] at this; injection this with this; subst this
  exact ⟨b',cur',e',h1,g2,g3,g4,yv4 hle h5 g5,g6⟩
 | arrX ne tg sz ver rows wr =>
  rcases k with ⟨k,kr⟩ | ⟨r,cur,h1,k2',k3',k4',k5',k6',k7',k8',k9'⟩
  ·exact .inl ⟨k,kr⟩
  ·rcases k2 with ⟨k2,kr2⟩ | ⟨r',cur',g1,k2,k3,k4,k5,k6,k7,k8,k9⟩
   ·have := hle.ar _ _ _ h1; rw [k2] at this; cases this
   ·have := hle.ar _ _ _ h1; rw [g1] at this; injection this with this; injection this with this; subst this
    refine .inr ⟨r',cur',h1,k2,k3,k4,k5,k6,k7,?_,k9⟩
    cases ne with
    | false => exact k8
    | true => exact yv4 hle k8' k8
 | map es =>
  obtain ⟨b,ms,ck,h1,k⟩ := k
  obtain ⟨b',ms',ck',g1,k2⟩ := k2
  have := hle.bl _ _ h1; rw [g1] at this; injection this with this; subst this
  exact ⟨b',ms',ck',h1,k2⟩
 | iter s pos =>
  obtain ⟨b,h1,k⟩ := k
  obtain ⟨b',g1,k2⟩ := k2
  have := hle.bl _ _ h1; rw [g1] at this; injection this with this; subst this
  exact ⟨b',h1,k2⟩
 | lp busy x =>
  obtain ⟨b,r,h1,k⟩ := k
  obtain ⟨b',r',g1,k2⟩ := k2
  have := hle.bl _ _ h1; rw [g1] at this; injection this with this; subst this
  exact ⟨b',r',h1,k2⟩
 | mit m n seen last =>
  obtain ⟨b,mo,h1,h2,h3,h4⟩ := k
  obtain ⟨b',mo',g1,g2,g3,g4⟩ := k2
  have := hle.bl _ _ h1; rw [g1] at this; injection this with this; subst this
  refine ⟨b',mo',h1,g2,g3,?_⟩
  cases m with
  | none => exact g4
  | some m =>
   obtain ⟨bm,h5,h6⟩ := h4
   obtain ⟨bm',g5,g6⟩ := g4
   have := hle.bl _ _ h5; rw [g5] at this; injection this with this; subst this
   exact ⟨bm',h5,g6⟩
 | dead => trivial
def zq8 (rs : List RV) (r : AV) (h0 : Heap) : zc4 := fun x env fr h => (match x with | .exit _ => False | _ => True) ∧ ∃ v,zx3 (getT env fr) h rs = some v ∧ view h v = some r ∧ ∃ t,zc6 h (owns v) = h0 ++ t
def zm2 (F : List AV → Heap → Option AV) : List AV → Heap → Option (AV × Heap) := fun args h => (F args h).map fun r => (r,h)
section
variable {P : Program} {G : Gam}
theorem zA5 (hm : P.follows .mixedOrders = true) {gv : Gv} (hG : GamOK P gv G) {f : FuncId} {fn : Func} {c : Code} (hf : P.funcs[f]? = some fn) (hb : fn.body = some c) {ks ow : List Nat} {dl : List (List Nat)} {rs : List RV} {mc : MC}
  (hks : ks.all (fun k => decide (k < fn.ntmps)) = true) (hrs : zn4 P fn.results.toList = some rs) (hmc : (ze5 P gv ks fn.ntmps ow c dl).1 = mc) {F : List AV → Heap → Option AV}
  (hF : ∀ args h r,F args h = some r → wpM G mc (zq8 rs r h) [] (za2 ks args) h) : zl3 P gv f (zm2 F) := by
 intro B C h w args r h' vals hgv hi hr hF'
 subst hgv
 simp only [zm2,Option.map_eq_some_iff,Prod.mk.injEq] at hF'
 obtain ⟨r',hF',rfl,rfl⟩ := hF'
 have hst := zo9 (n := fn.ntmps) hi hks hr
 have hq := hF args h r' hF'
 rw [← hmc] at hq
 have hw := zg0 hm c true none (fun _ => rfl) B (GamOK.b hG) dl _ w [] _ [] _ h _ _ w hst (.start rfl) hq
 refine zi5 hf hb hi.hB hw fun x env fr h2 C' a' w' k0 k5 k6 k7 => ?_
 obtain ⟨k2,v,k3,k4,t,k4'⟩ := k0
 refine ⟨k2,?_⟩
 obtain ⟨u,r1,r2⟩ := zk8 k5.inv k5.rel hrs k3
 have hfz : frz h2 v = some (r',zc6 h2 (owns v)) := by simp [frz,k4]
 obtain ⟨D,d1,d2,d3,d4,d5⟩ := zp6 k5.inv hfz r1
 have hle : C.Le D := k6.trans d1
 have hback := xy5 hi d2 hle (fun l blk hb => by rw [k4',List.getElem?_append_left (List.getElem?_eq_some_iff.1 hb).1]; exact hb)
 exact ⟨u,r2,u,⟨D.im,C.bl,C.ar⟩,rfl,⟨hle.im,fun _ _ x => x,fun _ _ _ x => x⟩,hback,d3.mono ⟨fun _ _ _ x => x,(fun _ _ x => by cases x),(fun _ _ _ x => by cases x)⟩,k7⟩
end
end Go.Proofs.YtopiadllkglamaaGreatDoor
namespace Go.Proofs.YtopiadllkglamaaGreatDoor
open Go.RowKit Go.IntWalk
abbrev Bs := List UInt8
def big : Nat := 1099511627776
structure Enc (α : Type) where
 enc : α → AV
 dec : AV → Option α
 de : ∀ x,dec (enc x) = some x
 ed : ∀ a x,dec a = some x → a = enc x
structure REnc (α : Type) where
 enc : α → List AV
 dec : List AV → Option α
 de : ∀ x,dec (enc x) = some x
 ed : ∀ a x,dec a = some x → a = enc x
def eStr : Enc Bs where
 enc := .str
 dec := fun a => match a with | .str s => some s | _ => none
 de := fun _ => rfl
 ed := fun a x h => by cases a <;> simp at h; subst h; rfl
def eInt : Enc Int where
 enc := .int .i64
 dec := fun a => match a with | .int .i64 s => some s | _ => none
 de := fun _ => rfl
 ed := fun a x h => by
  split at h
  ·injection h with h; subst h; rfl
  ·cases h
def zo6 (k : IntKind) : Enc Int where
 enc := .int k
 dec := fun a => match a with | .int k' s => if k = k' then some s else none | _ => none
 de := fun _ => if_pos rfl
 ed := fun a x h => by
  split at h
  ·split at h
   ·rename_i e; injection h with h; subst h e; rfl
   ·cases h
  ·cases h
def eBool : Enc Bool where
 enc := .bool
 dec := fun a => match a with | .bool s => some s | _ => none
 de := fun _ => rfl
 ed := fun a x h => by cases a <;> simp at h; subst h; rfl
def eAgg {α : Type} (r : REnc α) : Enc α where
 enc := fun x => .agg (r.enc x)
 dec := fun a => match a with | .agg s => r.dec s | _ => none
 de := fun x => r.de x
 ed := fun a x h => by cases a <;> simp at h; rw [r.ed _ _ h]
def zs8 {α : Type} (dec : List AV → Option α) : List (List AV) → Option (List α)
 | [] => some []
 | r :: rs => match dec r,zs8 dec rs with
  | some x,some xs => some (x :: xs)
  | _,_ => none
theorem zG2 {α : Type} (r : REnc α) : ∀ {rows : List (List AV)} {xs : List α},zs8 r.dec rows = some xs → rows = xs.map r.enc
 | [],xs,h => by simp [zs8] at h; subst h; rfl
 | a :: rs,xs,h => by
  simp only [zs8] at h
  split at h
  ·rename_i x xs' h2 h3
   injection h with h; subst h
   rw [r.ed _ x h2,zG2 r h3]; rfl
  ·cases h
theorem zt4 {α : Type} (r : REnc α) : ∀ (xs : List α),zs8 r.dec (xs.map r.enc) = some xs
 | [] => rfl
 | x :: xs => by simp [zs8,r.de,zt4 r xs]
def eSl {α : Type} (r : REnc α) : Enc (List α) where
 enc := fun xs => .sl (xs.map r.enc)
 dec := fun a => match a with | .sl rows => zs8 r.dec rows | _ => none
 de := fun x => zt4 r x
 ed := fun a x h => by cases a <;> simp at h; rw [zG2 r h]
def rOne {α : Type} (e : Enc α) : REnc α where
 enc := fun x => [e.enc x]
 dec := fun a => match a with | [x] => e.dec x | _ => none
 de := fun x => e.de x
 ed := fun a x h => by
  match a,h with
  | [y],h => rw [e.ed _ _ h]
def eTup2 {α β : Type} (a : Enc α) (b : Enc β) : Enc (α × β) where
 enc := fun x => .tup [a.enc x.1,b.enc x.2]
 dec := fun v => match v with
  | .tup [x,y] => (a.dec x).bind fun x => (b.dec y).map fun y => (x,y)
  | _ => none
 de := fun x => by simp [a.de,b.de]
 ed := fun v x h => by
  split at h
  ·rename_i p q
   simp only [Option.bind_eq_some_iff,Option.map_eq_some_iff] at h
   obtain ⟨x',h1,y',h2,rfl⟩ := h
   rw [a.ed _ _ h1,b.ed _ _ h2]
  ·cases h
def eTup3 {α β γ : Type} (a : Enc α) (b : Enc β) (c : Enc γ) : Enc (α × β × γ) where
 enc := fun x => .tup [a.enc x.1,b.enc x.2.1,c.enc x.2.2]
 dec := fun v => match v with
  | .tup [x,y,z] => (a.dec x).bind fun x => (b.dec y).bind fun y => (c.dec z).map fun z => (x,y,z)
  | _ => none
 de := fun x => by simp [a.de,b.de,c.de]
 ed := fun v x h => by
  split at h
  ·rename_i p q r
   simp only [Option.bind_eq_some_iff,Option.map_eq_some_iff] at h
   obtain ⟨x',h1,y',h2,z',h3,rfl⟩ := h
   rw [a.ed _ _ h1,b.ed _ _ h2,c.ed _ _ h3]
  ·cases h
section
variable {α β γ δ ε ρ : Type} (A : Enc α) (B : Enc β) (C : Enc γ) (D : Enc δ) (R : Enc ρ)
def F0 (r : AV) : List AV → Option AV
 | [] => some r
 | _ => none
def F1 (f : α → Option ρ) : List AV → Option AV
 | [a] => (A.dec a).bind fun x => (f x).map R.enc
 | _ => none
def F2 (f : α → β → Option ρ) : List AV → Option AV
 | [a,b] => (A.dec a).bind fun x => (B.dec b).bind fun y => (f x y).map R.enc
 | _ => none
def F3 (f : α → β → γ → Option ρ) : List AV → Option AV
 | [a,b,c] => (A.dec a).bind fun x => (B.dec b).bind fun y => (C.dec c).bind fun z => (f x y z).map R.enc
 | _ => none
variable {A B C D R}
theorem zw5 {f : α → Option ρ} {x : α} {r : ρ} (h : f x = some r) : F1 A R f [A.enc x] = some (R.enc r) := by simp [F1,A.de,h]
theorem yj7 {f : α → β → Option ρ} {x : α} {y : β} {r : ρ} (h : f x y = some r) : F2 A B R f [A.enc x,B.enc y] = some (R.enc r) := by simp [F2,A.de,B.de,h]
theorem wf9 {f : α → β → γ → Option ρ} {x : α} {y : β} {z : γ} {r : ρ} (h : f x y z = some r) : F3 A B C R f [A.enc x,B.enc y,C.enc z] = some (R.enc r) := by simp [F3,A.de,B.de,C.de,h]
theorem wg1 {Q : List AV → AV → Prop} {r : AV} (h : Q [] r) : ∀ args r',F0 r args = some r' → Q args r' := by
 intro args r' hF
 unfold F0 at hF
 split at hF
 ·injection hF with hF; subst hF; exact h
 ·cases hF
theorem zU6 {Q : List AV → AV → Prop} {f : α → Option ρ} (h : ∀ x r,f x = some r → Q [A.enc x] (R.enc r)) : ∀ args r,F1 A R f args = some r → Q args r := by
 intro args r hF
 unfold F1 at hF
 split at hF
 ·simp only [Option.bind_eq_some_iff,Option.map_eq_some_iff] at hF
  obtain ⟨x,h1,r',h2,rfl⟩ := hF
  rw [A.ed _ _ h1]; exact h x r' h2
 ·cases hF
theorem xs3 {Q : List AV → AV → Prop} {f : α → β → Option ρ} (h : ∀ x y r,f x y = some r → Q [A.enc x,B.enc y] (R.enc r)) : ∀ args r,F2 A B R f args = some r → Q args r := by
 intro args r hF
 unfold F2 at hF
 split at hF
 ·simp only [Option.bind_eq_some_iff,Option.map_eq_some_iff] at hF
  obtain ⟨x,h1,y,h2,r',h3,rfl⟩ := hF
  rw [A.ed _ _ h1,B.ed _ _ h2]; exact h x y r' h3
 ·cases hF
theorem F3_ok {Q : List AV → AV → Prop} {f : α → β → γ → Option ρ} (h : ∀ x y z r,f x y z = some r → Q [A.enc x,B.enc y,C.enc z] (R.enc r)) : ∀ args r,F3 A B C R f args = some r → Q args r := by
 intro args r hF
 unfold F3 at hF
 split at hF
 ·simp only [Option.bind_eq_some_iff,Option.map_eq_some_iff] at hF
  obtain ⟨x,h1,y,h2,z,h3,r',h4,rfl⟩ := hF
  rw [A.ed _ _ h1,B.ed _ _ h2,C.ed _ _ h3]; exact h x y z r' h4
 ·cases hF
end
theorem wg0 {α β ρ : Type} {A : Enc α} {B : Enc β} {R : Enc ρ} {f : α → β → Option ρ} {args : List AV} {r : AV} (h : F2 A B R f args = some r) : ∃ x y z,args = [A.enc x,B.enc y] ∧ f x y = some z ∧ r = R.enc z :=
 xs3 (Q := fun args r => ∃ x y z,args = [A.enc x,B.enc y] ∧ f x y = some z ∧ r = R.enc z) (fun x y z h => ⟨x,y,z,rfl,h,rfl⟩) args r h
section
variable {G : Gam} {s : Bool} {ks : List MK} {Q : zc4} {env fr : List (Nat × AV)} {h : Heap}
@[simp] theorem yS5 : trunc h.length fr h = h := by
 unfold trunc; split <;> simp
@[simp] theorem xw2 {f : FuncId} {caps args : List AV} : opV G false h .callv (some (.fn f caps :: args)) = zl8 G f (args ++ caps) h := rfl
theorem zg1 {f : FuncId} {F : List AV → Heap → Option (AV × Heap)} {args : List AV} (hf : G f = some (.gen F)) : opV G false h (.call f) (some args) = F args h := by
 simp only [opV,Bool.false_and,Bool.false_eq_true,if_false,zi4,zd2,AO.quiet,zb1,zl8,hf]
theorem yb2 {f : FuncId} {F : List AV → Option AV} {args us : List AV} {r : AV} (hf : G f = some (.pure F)) (hv : zj6 h args = some us) (hF : F us = some r) (ho : zS1 r = true) : zl8 G f args h = some (r,h) := by
 simp only [zl8,hf,hv,hF,ho,if_true]
theorem yp2 {f : FuncId} {F : List AV → Heap → Option (AV × Heap)} {args : List AV} (hf : G f = some (.gen F)) : zl8 G f args h = F args h := by
 simp only [zl8,hf]
theorem xy2 {α β : Type} {c : Prop} [Decidable c] {v v' : α} {h : β} : (if c then some (v,h) else some (v',h)) = some (if c then v else v',h) := by split <;> rfl
theorem yV5 {c : Prop} [Decidable c] {x y : Bool} : (if c then AV.bool x else AV.bool y) = AV.bool (if c then x else y) := by split <;> rfl
theorem xg0 {want : Bool} {r : Option (AV × Heap)} {c : Prop} [Decidable c] {x y : AV} : zS8 want h r (some (if c then x else y)) = if c then zS8 want h r (some x) else zS8 want h r (some y) := by split <;> rfl
theorem xZ9 {x y : Bool} : (if On x then true else y) = (x || y) := by cases x <;> rfl
theorem xy3 {x y : Bool} : (if On x then y else false) = (x && y) := by cases x <;> rfl
theorem xL6 {x y : Bool} : (if On x then y else true) = (!x || y) := by cases x <;> rfl
theorem xf2 {x y : Bool} : (if On x then false else y) = (!x && y) := by cases x <;> rfl
def ltB (a b : Int) : Bool := decide (a < b)
def eqB (a b : Int) : Bool := decide (a = b)
theorem zb8 {a b : Int} : ltB a b = true ↔ a < b := by simp [ltB]
theorem ze4 {a b : Int} : ltB a b = false ↔ b ≤ a := by simp [ltB]
theorem xm1 {a b : Int} : eqB a b = true ↔ a = b := by simp [eqB]
theorem zj4 {a b : Int} : eqB a b = false ↔ ¬ a = b := by simp [eqB]
@[simp] theorem xz6 {a : Int} : eqB a a = true := by simp [eqB]
@[simp] theorem wi4 {a : Int} : ltB a a = false := by simp [ltB]
theorem xW4 {k : IntKind} {a b : Int} : zc2 .lss (.int k a) (.int k b) = some (.bool (ltB a b)) := by simp [zc2,zh3,ltB]
theorem xW6 {k : IntKind} {a b : Int} : zc2 .gtr (.int k a) (.int k b) = some (.bool (ltB b a)) := by simp [zc2,zh3,ltB]
theorem xW5 {k : IntKind} {a b : Int} : zc2 .leq (.int k a) (.int k b) = some (.bool (!ltB b a)) := by
 by_cases h : b < a <;> simp [zc2,zh3,ltB,h] <;> omega
theorem yt5 {k : IntKind} {a b : Int} : zc2 .geq (.int k a) (.int k b) = some (.bool (!ltB a b)) := by
 by_cases h : a < b <;> simp [zc2,zh3,ltB,h] <;> omega
theorem xW7 {k : IntKind} {a b : Int} : zc2 .eql (.int k a) (.int k b) = some (.bool (eqB a b)) := by simp [zc2,zh3,eqB]; rfl
theorem zH1 {k : IntKind} {a b : Int} : zc2 .neq (.int k a) (.int k b) = some (.bool (!eqB a b)) := by simp [zc2,zh3,eqB]; rfl
theorem yt6 {k : IntKind} {a b : Int} : zc2 .add (.int k a) (.int k b) = some (.int k (k.wrap (a + b))) := by simp [zc2,zh3]
theorem xW2 {k : IntKind} {a b : Int} : zc2 .sub (.int k a) (.int k b) = some (.int k (k.wrap (a - b))) := by simp [zc2,zh3]
theorem xW3 {op : BinOp} {a b : Bs} : zc2 op (.str a) (.str b) = zy6 op a b := rfl
open Classical in
noncomputable def ask (G : Gam) (h : Heap) (f : FuncId) (caps : List AV) (x : AV) : Option Bool :=
 if zl8 G f (x :: caps) h = some (.bool true,h) then some true
 else if zl8 G f (x :: caps) h = some (.bool false,h) then some false else none
theorem xq7 {f : FuncId} {caps : List AV} {x : AV} {b : Bool} (hc : zl8 G f (x :: caps) h = some (.bool b,h)) : ask G h f caps x = some b := by
 unfold ask
 cases b <;> simp [hc]
theorem yp5 {f : FuncId} {caps : List AV} {x : AV} {b : Bool} (ha : ask G h f caps x = some b) : zl8 G f (x :: caps) h = some (.bool b,h) := by
 unfold ask at ha
 split at ha
 ·injection ha with ha; subst ha; assumption
 ·split at ha
  ·injection ha with ha; subst ha; assumption
  ·cases ha
def zJ7 {α : Type} (p : α → Option Bool) : Nat → List α → Option Int
 | _,[] => some (-1)
 | i,x :: xs => match p x with
  | some true => some i
  | some false => zJ7 p (i + 1) xs
  | none => none
def yG9 {α : Type} (p : α → Bool) : Nat → List α → Int
 | _,[] => -1
 | i,x :: xs => if p x then i else yG9 p (i + 1) xs
theorem yO4 {α β : Type} {q : β → Option Bool} {p : α → Bool} {e : α → β} : ∀ (xs : List α) (i : Nat),(∀ x ∈ xs,q (e x) = some (p x)) → zJ7 q i (xs.map e) = some (yG9 p i xs)
 | [],i,_ => rfl
 | x :: xs,i,hq => by
  simp only [List.map_cons,zJ7,hq x (by simp),yG9]
  cases p x with
  | true => rfl
  | false => exact yO4 xs (i + 1) (fun y hy => hq y (by simp [hy]))
theorem zT0 {α : Type} {p : α → Bool} : ∀ (xs : List α) (i : Nat),0 ≤ yG9 p i xs ↔ xs.any p = true
 | [],i => by simp [yG9]
 | x :: xs,i => by
  simp only [yG9,List.any_cons]
  cases hp : p x with
  | true => simp
  | false => simp [zT0 xs (i + 1)]
theorem zn1 {i : Nat} (hi : i < big) : IntKind.i64.wrap ((i : Int) + 1) = ((i + 1 : Nat) : Int) := by
 unfold big at hi; rw [i64_in _ (by omega)]; rfl
theorem xm5 {α : Type} {xs : List α} {i : Nat} (h : i < xs.length) : ∃ x,xs[i]? = some x ∧ xs.drop i = x :: xs.drop (i + 1) := ⟨xs[i],by simp [h],List.drop_eq_getElem_cons h⟩
theorem xn7 {row : List AV} {n : Nat} (h : row.length = n) : cut row 0 n = row := by subst h; simp [cut]
@[simp] theorem cut_one {v : AV} : cut [v] 0 1 = [v] := rfl
theorem zf0 {α : Type} {xs rest : List α} {i : Nat} {x : α} (h : xs.drop i = x :: rest) : i < xs.length ∧ xs[i]? = some x ∧ xs.drop (i + 1) = rest := by
 have h1 : i < xs.length := by
  rcases Nat.lt_or_ge i xs.length with h1 | h1
  ·exact h1
  ·rw [List.drop_eq_nil_iff.2 h1] at h; cases h
 refine ⟨h1,?_,by rw [← List.drop_drop,h]; rfl⟩
 have := congrArg (·[0]?) h; simpa using this
theorem zh4 {α : Type} {xs : List α} {i : Nat} (h : xs.drop i = []) : xs.length ≤ i := by simpa using h
noncomputable def zk0 (agg : Bool) (n : Nat) (G : Gam) : List AV → Heap → Option AV
 | [.sl rows,.fn f caps],h => if rows.length ≤ big then (zJ7 (fun row => if row.length = n then (zd8 agg n row).bind (ask G h f caps) else none) 0 rows).map (.int .i64) else none
 | _,_ => none
noncomputable def zf5 (agg : Bool) (n : Nat) (G : Gam) : List AV → Heap → Option AV
 | [.sl rows,.fn f caps],h => if rows.length ≤ big then (zJ7 (fun row => if row.length = n then (zd8 agg n row).bind (ask G h f caps) else none) 0 rows).map (fun i => .bool (!ltB i 0)) else none
 | _,_ => none
theorem zF0 {agg : Bool} {n : Nat} {args : List AV} {r : AV} (hF : zk0 agg n G args h = some r) : ∃ rows f caps v,args = [.sl rows,.fn f caps] ∧ rows.length ≤ big ∧ zJ7 (fun row => if row.length = n then (zd8 agg n row).bind (ask G h f caps) else none) 0 rows = some v ∧ r = .int .i64 v := by
 match args,hF with
 | [.sl rows,.fn f caps],hF =>
  simp only [zk0] at hF
  split at hF
  ·rename_i hb
   simp only [Option.map_eq_some_iff] at hF
   obtain ⟨v,hv,rfl⟩ := hF
   exact ⟨rows,f,caps,v,rfl,hb,hv,rfl⟩
  ·cases hF
theorem zw3 {agg : Bool} {n : Nat} {args : List AV} {r : AV} (hF : zf5 agg n G args h = some r) : ∃ rows f caps v,args = [.sl rows,.fn f caps] ∧ rows.length ≤ big ∧ zJ7 (fun row => if row.length = n then (zd8 agg n row).bind (ask G h f caps) else none) 0 rows = some v ∧ r = .bool (!ltB v 0) := by
 match args,hF with
 | [.sl rows,.fn f caps],hF =>
  simp only [zf5] at hF
  split at hF
  ·rename_i hb
   simp only [Option.map_eq_some_iff] at hF
   obtain ⟨v,hv,rfl⟩ := hF
   exact ⟨rows,f,caps,v,rfl,hb,hv,rfl⟩
  ·cases hF
theorem zT5 {α : Type} {C f : FuncId} {agg : Bool} {n : Nat} {G0 : Gam} {caps : List AV} {xs : List α} {e : α → List AV} {val : α → AV} {p : α → Bool} (hG : G C = some (.gen (zm2 (zf5 agg n G0)))) (hb : xs.length ≤ big)
  (hv : ∀ x,zd8 agg n (e x) = some (val x) ∧ (e x).length = n) (hp : ∀ x ∈ xs,ask G0 h f caps (val x) = some (p x)) : opV G false h (.call C) (some [.sl (xs.map e),.fn f caps]) = some (.bool (xs.any p),h) := by
 rw [zg1 hG]
 have := yO4 (q := fun row => if row.length = n then (zd8 agg n row).bind (ask G0 h f caps) else none) (p := p) (e := e) xs 0 (fun x hx => by simp [(hv x).1,(hv x).2,hp x hx])
 have hn := zT0 (p := p) xs 0
 have hl : (xs.map e).length ≤ big := by simpa using hb
 simp only [zm2,zf5,hl,if_true,this,Option.map_some,Option.some.injEq,Prod.mk.injEq,AV.bool.injEq,and_true]
 cases ha : xs.any p with
 | true => simp [ze4.2 (hn.2 ha)]
 | false =>
  have hn' : ¬ 0 ≤ yG9 p 0 xs := fun k => by rw [hn.1 k] at ha; cases ha
  simp [zb8.2 (Int.not_le.1 hn')]
theorem zx4 {st : Bool} {s : Bs} {i : Nat} {b : UInt8} {k : IntKind} (hb : s[i]? = some b) : opV G st h .istr (some [.str s,.int k i]) = some (.int .u8 b.toNat,h) := by
 rw [zb2 rfl]; simp [za7,hb]
@[simp] theorem wh9 {st : Bool} {s : Bs} {b : UInt8} {k : IntKind} : opV G st h .istr (some [.str (b :: s),.int k 0]) = some (.int .u8 b.toNat,h) := zx4 (i := 0) rfl
attribute [simp] xy2 yV5 xg0 xZ9 xy3 xL6 xf2
attribute [simp] zc0 zm1 low lowL lowH lowB zx6 zy6 unAV xW4 xW6 xW5 yt5 xW7 zH1 yt6 xW2 xW3 ze1 zb0 zx3 resL zX7 view zj6 za8
end
end Go.Proofs.YtopiadllkglamaaGreatDoor
namespace Go.Proofs.YtopiadllkglamaaGreatDoor
open Go.RowKit Go.IntWalk
def zB8 {β : Type} (k : Bs) : List (Bs × β) → Option β
 | [] => none
 | (k',v) :: r => if k = k' then some v else zB8 k r
def putM {β : Type} (k : Bs) (v : β) : List (Bs × β) → List (Bs × β)
 | [] => [(k,v)]
 | (k',u) :: r => if k = k' then (k',v) :: r else (k',u) :: putM k v r
theorem zp4 {β : Type} {k k2 : Bs} {v : β} : ∀ m : List (Bs × β),zB8 k (putM k2 v m) = if k = k2 then some v else zB8 k m
 | [] => by simp [putM,zB8]
 | (k',u) :: r => by
  simp only [putM]
  by_cases h : k2 = k'
  ·subst h
   simp only [if_true,zB8]
   by_cases h1 : k = k2 <;> simp [h1]
  ·simp only [h,if_false,zB8,zp4 r]
   by_cases h1 : k = k'
   ·have : ¬ k = k2 := fun e => h (by rw [← e,h1])
    simp [h1]
    intro e; exact absurd e.symm h
   ·simp [h1]
section
variable {β : Type} (V : Enc β)
def encM (m : List (Bs × β)) : List (AV × AV) := m.map fun p => (.str p.1,V.enc p.2)
variable {V}
theorem yM9 {k : Bs} : ∀ m : List (Bs × β),mget .s (.str k) (encM V m) = some ((zB8 k m).map V.enc)
 | [] => rfl
 | (k',x) :: r => by
  have ih := yM9 (k := k) r
  simp only [encM] at ih
  simp only [encM,List.map_cons,mget,yn7,zB8]
  by_cases h : k = k'
  ·simp [h]
  ·have : (k == k') = false := by simp [h]
   simp only [this,h,if_false]; exact ih
theorem yM6 {k : Bs} {v : β} : ∀ m : List (Bs × β),mput .s (.str k) (V.enc v) (encM V m) = some (encM V (putM k v m))
 | [] => rfl
 | (k',x) :: r => by
  have ih := yM6 (k := k) (v := v) r
  simp only [encM] at ih
  simp only [encM,List.map_cons,mput,yn7,putM]
  by_cases h : k = k'
  ·simp [h]
  ·have : (k == k') = false := by simp [h]
   simp only [this,h,if_false,ih]; rfl
variable {G : Gam} {s : Bool} {h : Heap}
theorem xd1 {l : Nat} {m : List (Bs × β)} {k : Bs} {zero : AV} (hl : h[l]? = some (.map (encM V m))) : opV G s h (.look .s false zero) (some [.map l,.str k]) = some (((zB8 k m).map V.enc).getD zero,h) := by
 rw [zb2 rfl]
 simp only [za7,yx6,if_true,hl,yM9,Option.map_some]
 cases zB8 k m <;> rfl
theorem yM3 {l : Nat} {m : List (Bs × β)} {k : Bs} {v : β} {x : AV} (hl : h[l]? = some (.map (encM V m))) (hx : x = V.enc v) (hv : view h x = some x) (ho : owns x = []) : opV G s h (.mapup .s) (some [.map l,.str k,x]) = some (.junk,h.set l (.map (encM V (putM k v m)))) := by
 subst hx
 rw [zi1 rfl]
 simp only [zb1,yx6,if_true,frz,hv,Option.map_some,ho,zc6,hl,yM6]
end
section
variable {G : Gam} {s : Bool} {h : Heap}
@[simp] theorem xV1 (c : List AV) : (AV.agg c).cells = c := rfl
@[simp] theorem xO5 (b : Bool) : (AV.bool b).cells = [.bool b] := rfl
@[simp] theorem xT5 (b : Bool) : oneC (AV.bool b) = true := rfl
@[simp] theorem xV0 (k : IntKind) (n : Int) : (AV.int k n).cells = [.int k n] := rfl
@[simp] theorem xZ1 (k : IntKind) (n : Int) : oneC (AV.int k n) = true := rfl
@[simp] theorem xU6 (s : Bs) : (AV.str s).cells = [.str s] := rfl
@[simp] theorem xY7 (s : Bs) : oneC (AV.str s) = true := rfl
@[simp] theorem wd1 (r : List (List AV)) : (AV.sl r).cells = [.sl r] := rfl
@[simp] theorem wi1 (r : List (List AV)) : oneC (AV.sl r) = true := rfl
@[simp] theorem xU5 (r : List (List AV)) : (AV.tsl r).cells = [.tsl r] := rfl
@[simp] theorem xY6 (r : List (List AV)) : oneC (AV.tsl r) = true := rfl
@[simp] theorem xO4  : (AV.nils).cells = [.nils ] := rfl
@[simp] theorem xT4  : oneC (AV.nils) = true := rfl
@[simp] theorem xU8 (l v n : Nat) : (AV.own l v n).cells = [.own l v n] := rfl
@[simp] theorem xY9 (l v n : Nat) : oneC (AV.own l v n) = true := rfl
@[simp] theorem xU9 (l : Nat) : (AV.map l).cells = [.map l] := rfl
@[simp] theorem xZ0 (l : Nat) : oneC (AV.map l) = true := rfl
@[simp] theorem xU7 (l o : Nat) : (AV.ptr l o).cells = [.ptr l o] := rfl
@[simp] theorem xY8 (l o : Nat) : oneC (AV.ptr l o) = true := rfl
@[simp] theorem wd2 (f : FuncId) (c : List AV) : (AV.fn f c).cells = [.fn f c] := rfl
@[simp] theorem wi2 (f : FuncId) (c : List AV) : oneC (AV.fn f c) = true := rfl
@[simp] theorem xs5 {α : Type} (a b c : α) : [a,b].set 1 c = [a,c] := rfl
@[simp] theorem wj3 {x : AV} {xs : List AV} {n k : Nat} : cut (x :: xs) (n + 1) k = cut xs n k := rfl
@[simp] theorem wj2 {x : AV} {xs : List AV} {k : Nat} : cut (x :: xs) 0 (k + 1) = x :: cut xs 0 k := rfl
@[simp] theorem wj4 {xs : List AV} {n : Nat} : cut xs n 0 = [] := by simp [cut]
@[simp] theorem xT6 {c : AV} {cs : List AV} {n : Nat} : zd8 true n (c :: cs) = if (c :: cs).length = n then some (.agg (c :: cs)) else none := by simp [zd8]
attribute [simp] zj1 owns zm0 zc6
theorem yw0 {v : AV} {c : AV} {cs : List AV} (hv : v.cells = c :: cs) : opV G s h .box (some [v]) = some (.ptr h.length 0,h ++ [.cells (c :: cs)]) := by
 rw [zi1 rfl]; simp only [zb1,hv]
@[simp] theorem xT3 {c : AV} {cs : List AV} : opV G s h .box (some [.agg (c :: cs)]) = some (.ptr h.length 0,h ++ [.cells (c :: cs)]) := yw0 rfl
@[simp] theorem xT0 {x : Bs} : opV G s h .box (some [.str x]) = some (.ptr h.length 0,h ++ [.cells [.str x]]) := yw0 rfl
@[simp] theorem xT1 {l : Nat} : opV G s h .box (some [.map l]) = some (.ptr h.length 0,h ++ [.cells [.map l]]) := yw0 rfl
@[simp] theorem xT2 {k : IntKind} {n : Int} : opV G s h .box (some [.int k n]) = some (.ptr h.length 0,h ++ [.cells [.int k n]]) := yw0 rfl
@[simp] theorem xY3 {n : List (List AV)} : opV G s h .box (some [.sl n]) = some (.ptr h.length 0,h ++ [.cells [.sl n]]) := yw0 rfl
@[simp] theorem zd5 {n l off : Nat} {v : AV} : stAV n h (.ptr l off) v = if v.cells.length = n ∧ 0 < n ∧ v.cells.all oneC then (match h[l]? with
   | some (.cellsT tg vs) => if off + n ≤ vs.length then some (h.set l (.cellsT tg (zj1 vs off v.cells))) else none
   | _ => none) else none := rfl
theorem zr2 {tg : Option TypeId} {l v sz : Nat} {rows : List (List AV)} {wr : Bool} (hl : h[l]? = some (.arrT tg sz v rows wr)) {n : Nat} (hn : n = rows.length) : zb7 h (.own l v n) = some rows := by
 subst hn; simp [zb7,hl]
theorem zV0 {tg : Option TypeId} {l v sz size i n : Nat} {rows : List (List AV)} {wr : Bool} {k : IntKind} {row : List AV} (hl : h[l]? = some (.arrT tg sz v rows wr)) (hn : n = rows.length) (hi : rows[i]? = some row) (hr : row.length = size) : zc9 size h (.own l v n) (.int k i) = some (.eptr l v i 0) := by
 have hlt : i < rows.length := (List.getElem?_eq_some_iff.1 hi).1
 subst hn
 have h1 : (i : Int) < rows.length := by omega
 simp [zc9,hl,hi,hr,h1]
theorem yn5 {tg : Option TypeId} {l v sz size i off : Nat} {agg : Bool} {rows : List (List AV)} {wr : Bool} {row : List AV} (hl : h[l]? = some (.arrT tg sz v rows wr)) (hi : rows[i]? = some row) : za8 size agg h (.eptr l v i off) = zd8 agg size (cut row off size) := by
 simp [za8,hl,hi]
theorem zO9 {l v sz n i off : Nat} {rows : List (List AV)} {row : List AV} {x : AV} (hl : h[l]? = some (.arr sz v rows true)) (hi : rows[i]? = some row) (h1 : x.cells.length = n) (h2 : 0 < n) (h3 : x.cells.all oneC = true) (h4 : off + n ≤ row.length) (hv : view h x = some x) (ho : owns x = []) : opV G s h (.st n) (some [.eptr l v i off,x]) = some (.junk,h.set l (.arr sz v (rows.set i (zj1 row off x.cells)) true)) := by
 rw [yc3]; simp [stAV,h1,h2,h3,frz,hv,ho,zc6,hl,hi,h4]
theorem ym6 {zero : List AV} {bytes n : Nat} {k k' : IntKind} (h1 : n * bytes ≤ zb9) (h2 : n ≤ zb9) : opV G s h (.mksl zero bytes) (some [.int k n,.int k' n]) = some (.own h.length 0 n,h ++ [.arr zero.length 0 (List.replicate n zero) true]) := by
 rw [zi1 rfl]; simp [zb1,h1,h2]
theorem zI3 {α : Type} {e : α → List AV} {n : Nat} (he : ∀ x,(e x).length = n) : ∀ xs : List α,zc3 n (xs.map e) = true
 | [] => rfl
 | x :: xs => by simp [zc3,he,zI3 he xs]
theorem xd0 {w a : Nat} {rows : List (List AV)} {k : IntKind} (h1 : a ≤ rows.length) (h2 : zc3 w rows = true) : opV G s h (.slc (some w) false true false) (some [.sl rows,.int k a]) = some (.sl (rows.take a),h) := by
 rw [zb2 rfl]
 have h1' : (a : Int) ≤ rows.length := by omega
 simp [za7,zs5,slc1,yk4,zw9,h1,h2]
theorem ym8 {α : Type} {e : α → List AV} {n b l : Nat} {os : List α} {x : α} (hl : h[l]? = some (.arr n os.length (os.map e) true)) (hs : (e x).length = n) (hb : b ≤ 64) (ho : os.length < big) :
  opV G s h (.app false n b) (some [.own l os.length os.length,.tsl [e x]]) = some (.own l (os ++ [x]).length (os ++ [x]).length,h.set l (.arr n (os ++ [x]).length ((os ++ [x]).map e) true)) := by
 have hbig : (os.length + 1) * b ≤ zb9 := by
  have : (os.length + 1) * b ≤ big * 64 := Nat.mul_le_mul (by omega) hb
  unfold zb9; unfold big at this ho; omega
 have := yM4 (G := G) (s := s) (h := h) (n := n) (b := b) (l := l) (ver := os.length) (k := os.length) (x := .tsl [e x]) (new := [e x]) (rows := os.map e) rfl hl (by simp) (by simp [zc3,hs]) (by simp) (by simpa using hbig) (by unfold big at ho; unfold zb9; simp; omega)
 simpa using this
end
def eNat : Enc Nat where
 enc := fun n => .int .i64 n
 dec := fun a => match a with | .int .i64 s => if 0 ≤ s then some s.toNat else none | _ => none
 de := fun n => by simp
 ed := fun a x h => by
  split at h
  ·split at h
   ·injection h with h; subst h; rename_i s hs; congr 1; omega
   ·cases h
  ·cases h
@[simp] theorem wj0 (n : Nat) : eNat.enc n = .int .i64 n := rfl
@[simp] theorem wi9 (n : Bs) : eStr.enc n = .str n := rfl
@[simp] theorem wj1 (n : Int) : eInt.enc n = .int .i64 n := rfl
@[simp] theorem wc3 (k : IntKind) (n : Int) : (zo6 k).enc n = .int k n := rfl
@[simp] theorem wc4 (n : Bool) : eBool.enc n = .bool n := rfl
@[simp] theorem wc2 {α β : Type} (a : Enc α) (b : Enc β) (x : α × β) : (eTup2 a b).enc x = .tup [a.enc x.1,b.enc x.2] := rfl
@[simp] theorem wc1 {α β γ : Type} (a : Enc α) (b : Enc β) (c : Enc γ) (x : α × β × γ) : (eTup3 a b c).enc x = .tup [a.enc x.1,b.enc x.2.1,c.enc x.2.2] := rfl
end Go.Proofs.YtopiadllkglamaaGreatDoor
