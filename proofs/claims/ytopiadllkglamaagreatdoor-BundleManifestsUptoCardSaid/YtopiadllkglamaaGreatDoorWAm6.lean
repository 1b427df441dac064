/- A region: how it is resolved,one operation in a frame,regions in the order of the text. Regions that draw their order: whatever order is drawn,what the text's order leaves. Regions in which what on -/
import Derived.Test.YtopiadllkglamaaGreatDoorWAm5
import Derived.OrdersIn
import Derived.StillTail
import Derived.Scope
import Derived.ControlIn
namespace Go.Proofs.YtopiadllkglamaaGreatDoor
open Go.RowKit
def fR (ro : Option Nat) : Fence := { Fence.wide with round := ro }
theorem yh2 {P : Program} {ro : Option Nat} {n : Nat} {f : FuncId} {args : Array Value} {w : World} {R : Ending → World → Prop} (h : Calls P f args w R) : CallsIn (fR ro) n P f args w R :=
 (callsIn_wide (n := n)).2 h
theorem yT8 {P : Program} {ro : Option Nat} {l : Nat} {f : FuncId} {tmps : Array Value} {assign body : Code} {w : World} {R : Ending → World → Prop} (h : RoundIn Fence.wide 0 P l f tmps assign body w R) : RoundIn (fR ro) 0 P l f tmps assign body w R := h
theorem zV1 {ro : Option Nat} {p : Prop} : (fR ro).depth.isSome = true → p := fun h => by simp [fR,Fence.wide] at h
def zf9 : MI := ⟨none,none,false,.bot,[]⟩
def yo8 (P : Program) (own k : Bool) (o : Oper) : Option (AO × List Operand) :=
 match (if k then xo1 P own o.op else none) with
 | some r => some r
 | none => match yz9 P own o with
  | some r => some r
  | none => if o.guard.isSome then some (.bot,[]) else none
def zu6 (ow : List Nat) : AO → AO
 | .call f => if ow.contains (1000000 + f) then .callg f else .call f
 | o => o
theorem zx7 {G : Gam} {h : Heap} {ow : List Nat} {o : AO} {vs : List AV} : zd2 G h (zu6 ow o) vs = zd2 G h o vs := by
 cases o <;> first | rfl | skip
 simp only [zu6]
 split <;> rfl
def yg6 (ow : List Nat) : AO → AO
 | .call f => .pre [.settle] (.call f)
 | .app str n b => .pre [.settle,.slot 0] (.app str n b)
 | .st n => .pre [.nest] (.st n)
 | .newnil n => match ow.find? fun x => decide (4000000 < x ∧ x < 5000000) with
  | some m => .pre [.spare (m - 4000001)] (.newnil n)
  | none => .newnil n
 | o => o
def xl3 (ow : List Nat) : AO → AO
 | .st n => .pre [.frzv] (.st n)
 | o => zu6 ow o
theorem yO3 {ow : List Nat} (o : AO) : xl3 ow o = zu6 ow o ∨ xl3 ow o = .pre [.frzv] o := by
 cases o <;> first | exact .inl rfl | exact .inr rfl
def yo0 (ow : List Nat) (o : AO) : AO := match o with
 | .pre _ _ => .bot
 | o => if ow.contains 4000000 then yg6 ow o else if ow.contains 7000000 then xl3 ow o else zu6 ow o
theorem yy4 {ow : List Nat} (o : AO) : yg6 ow o = o ∨ ∃ ks,yg6 ow o = .pre ks o := by
 cases o <;> first | exact .inl rfl | exact .inr ⟨_,rfl⟩ | skip
 simp only [yg6]
 split
 ·exact .inr ⟨_,rfl⟩
 ·exact .inl rfl
theorem yg9 {G : Gam} {h : Heap} {o : AO} {vs : List AV} (ho : ∀ ks q,o ≠ .pre ks q) : zi4 G h o vs = zd2 G h o vs := by
 cases o <;> first | rfl | exact absurd rfl (ho _ _)
theorem yh0 {G : Gam} {h : Heap} {ks : List PK} {o : AO} {vs : List AV} : zd2 G h (.pre ks o) vs = none := by
 simp [zd2,AO.quiet,zb1]
theorem yW1 {G : Gam} {h : Heap} {ow : List Nat} {o : AO} {vs : List AV} {r : AV × Heap} (hm : zd2 G h (yo0 ow o) vs = some r) : zd2 G h o vs = some r := by
 have key : zd2 G h (if ow.contains 4000000 then yg6 ow o else if ow.contains 7000000 then xl3 ow o else zu6 ow o) vs = some r → zd2 G h o vs = some r := fun hm => by
  split at hm
  ·rcases yy4 (ow := ow) o with e | ⟨ks,e⟩
   ·rw [e] at hm; exact hm
   ·rw [e,yh0] at hm; cases hm
  ·split at hm
   ·rcases yO3 (ow := ow) o with e | e
    ·rw [e,zx7] at hm; exact hm
    ·rw [e,yh0] at hm; cases hm
   ·rw [zx7] at hm; exact hm
 cases o <;> first | exact key hm | (simp [yo0,zd2,AO.quiet,za7] at hm)
theorem yH1 {G : Gam} {h : Heap} {ow : List Nat} {o : AO} {vs : List AV} {r : AV × Heap} (hm : zi4 G h (yo0 ow o) vs = some r) : ∃ ks h1 vs1,zL7 ks h vs = some (h1,vs1) ∧ zd2 G h1 o vs1 = some r := by
 have key : (∀ ks q,o ≠ .pre ks q) → zi4 G h (if ow.contains 4000000 then yg6 ow o else if ow.contains 7000000 then xl3 ow o else zu6 ow o) vs = some r → ∃ ks h1 vs1,zL7 ks h vs = some (h1,vs1) ∧ zd2 G h1 o vs1 = some r := fun ho hm => by
  split at hm
  ·rcases yy4 (ow := ow) o with e | ⟨ks,e⟩
   ·rw [e,yg9 ho] at hm; exact ⟨[],h,vs,rfl,hm⟩
   ·rw [e] at hm
    simp only [zi4] at hm
    split at hm
    ·rename_i h1 vs1 hp; exact ⟨ks,h1,vs1,hp,hm⟩
    ·cases hm
  ·have plain : zi4 G h (zu6 ow o) vs = some r → ∃ ks h1 vs1,zL7 ks h vs = some (h1,vs1) ∧ zd2 G h1 o vs1 = some r := fun hm => by
    refine ⟨[],h,vs,rfl,?_⟩
    rw [← zx7 (ow := ow),← yg9 (o := zu6 ow o)]
    ·exact hm
    ·intro ks q e
     cases o <;> first | (simp only [zu6] at e; cases e; done) | (simp only [zu6] at e; split at e <;> cases e; done) | exact ho _ _ rfl
   split at hm
   ·rcases yO3 (ow := ow) o with e | e
    ·rw [e] at hm; exact plain hm
    ·rw [e] at hm
     simp only [zi4] at hm
     split at hm
     ·rename_i h1 vs1 hp; exact ⟨_,h1,vs1,hp,hm⟩
     ·cases hm
   ·exact plain hm
 cases o <;> first | exact key (fun _ _ e => by cases e) hm | (simp [yo0,zi4,zd2,AO.quiet,za7] at hm)
def owAt (ow : List Nat) : List At → List Nat
 | .t a :: _ => if ow.contains (7000001 + a) then 7000000 :: ow else ow
 | _ => ow
def ze0 (P : Program) (gv : Gv) (ks : List Nat) (n : Nat) (ow : List Nat) (ops : Array Oper) (o : Oper) : MI :=
 match yo8 P ((o.dst.map fun t => ow.contains t).getD false) ((o.dst.map fun t => ow.contains (5000000 + t)).getD false) o with
 | some (ao,xs) => match yb0 gv xs with
  | some ats =>
   if (o.dst.map fun t => decide (t < n)).getD true then
    match o.guard with
    | none => ⟨none,o.dst,(o.dst.map fun t => ks.contains t).getD false,yo0 (owAt ow ats) ao,ats⟩
    | some (j,b) => match (ops[j]?).bind (·.dst) with
     | some t => ⟨some (t,b),o.dst,(o.dst.map fun t => ks.contains t).getD false,yo0 (owAt ow ats) ao,ats⟩
     | none => zf9
   else zf9
  | none => zf9
 | none => zf9
def za3 (P : Program) (gv : Gv) (ks : List Nat) (n : Nat) (ow : List Nat) (ops : Array Oper) : List MI := ops.toList.map (ze0 P gv ks n ow ops)
def RelT (C : Cx) (e : Nat → Option AV) (a : Act) : Prop := ∀ t x,e t = some x → ∃ u,a.tmps[t]? = some u ∧ Rel C x u
section
variable {P : Program} {B : Base} {C D : Cx} {h : Heap} {w w' : World} {G : Gam} {a : Act}
theorem RelT.mono {e : Nat → Option AV} (h : RelT C e a) (hl : C.Le D) : RelT D e a := fun t x hx => let ⟨u,h1,h2⟩ := h t x hx; ⟨u,h1,h2.mono hl⟩
theorem zB2 (hi : Inv B C h w) {e : Nat → Option AV} (hr : RelT C e a) {x : Operand} {at_ : At} {v : AV} (hc : zH9 B.gv x = some at_) (hv : getA e at_ = some v) : Rel C v (a.eval x) := by
 cases x with
 | tmp t =>
  simp only [zH9,Option.some.injEq] at hc; subst hc
  obtain ⟨u,h1,h2⟩ := hr t v hv
  have : a.eval (.tmp t) = u := by simp [Act.eval,h1]
  rw [this]; exact h2
 | const k =>
  simp only [zH9,Option.map_eq_some_iff] at hc
  obtain ⟨c,h1,rfl⟩ := hc
  simp only [getA,Option.some.injEq] at hv; subst hv
  exact zY3 h1
 | global g =>
  simp only [zH9,Option.map_eq_some_iff] at hc
  obtain ⟨r,hg,rfl⟩ := hc
  simp only [getA,Option.some.injEq] at hv; subst hv
  exact (hi.gl g r hg).mono C.frozen_le
 | func f =>
  simp only [zH9,Option.some.injEq] at hc; subst hc
  simp only [getA,Option.some.injEq] at hv; subst hv
  exact .fn f [] #[] rfl (fun i c v hc => by simp at hc)
theorem zT2 (hi : Inv B C h w) {e : Nat → Option AV} (hr : RelT C e a) : ∀ {xs : List Operand} {ats : List At} {vs : List AV},yb0 B.gv xs = some ats → zs7 e ats = some vs → RelL C vs (xs.map a.eval)
 | [],ats,vs,hc,hv => by simp [yb0] at hc; subst hc; simp [zs7] at hv; subst hv; exact .nil
 | x :: xs,ats,vs,hc,hv => by
  simp only [yb0] at hc
  split at hc
  ·rename_i at_ ats' h1 h2
   injection hc with hc; subst hc
   simp only [zs7] at hv
   split at hv
   ·rename_i v vs' h3 h4
    injection hv with hv; subst hv
    exact .cons (zB2 hi hr h1 h3) (zT2 hi hr h2 h4)
   ·cases hv
  ·cases hc
theorem zM9 {o : AO} {vs : List AV} {v : AV} (he : zf4 G h o vs = some v) : zd2 G h o vs = some (v,h) := by
 unfold zf4 at he
 split at he
 ·rename_i hq
  simp only [zd2,hq,if_true,he]
 ·rename_i hq
  have hq' : o.quiet = false := by simpa using hq
  simp only [zd2,hq',Bool.false_eq_true,if_false]
  split at he
  ·rename_i f
   split at he
   ·rename_i F hf
    split at he
    ·rename_i us hus
     split at he
     ·rename_i r hr
      simp only [zb1,zl8,hf,hus,hr]
      split at he
      ·rename_i hs; injection he with he; subst he; simp [hs]
      ·rename_i hs
       split at he
       ·rename_i ho; injection he with he; subst he; simp [hs,ho,zc6]
       ·cases he
     ·cases he
    ·cases he
   ·cases he
  ·rename_i size
   split at he
   ·rename_i ho
    split at he
    ·rename_i us hus
     split at he
     ·rename_i hc
      injection he with he; subst he
      simp only [zb1,frzL,hus,Option.map_some,ho,zc6]
      rw [if_pos hc]; rfl
     ·cases he
    ·cases he
   ·cases he
  ·cases vs with
   | nil => cases he
   | cons x bs =>
    simp only at he
    simp only [zb1]
    split at he
    ·rename_i l r m hargs
     simp only [yd9,he]
    ·cases he
  ·cases he
theorem zr3 (s : Bool) (e : Nat → Option AV) : zh9 G s zf9 e h = none := by
 cases s <;> simp [zh9,zf9,zs7,AO.loud,AO.quiet,zi4,zd2,za7,zf4]
theorem zL6 (a : Act) (d : Option Nat) (u : Value) : (a.put d u).tmps.size = a.tmps.size := by
 cases d <;> simp [Act.put]
theorem zA3 (a : Act) (d : Option Nat) (u : Value) : (a.put d u).defers = a.defers := by
 cases d <;> rfl
theorem xc9 (hG : GamB P B G) (hi : Inv B C h w) {own k : Bool} {oper : Oper} {ao : AO} {xs : List Operand} (hc : yo8 P own k oper = some (ao,xs)) {vals : List AV} {v : AV} {h' : Heap} {ρ : Operand → Value}
  (hρ : ∀ u,ρ (.const u) = u) (hρf : ∀ f,ρ (.func f) = .func (.func f) #[] #[]) (hrel : RelL C vals (xs.map ρ)) (hev : zd2 G h ao vals = some (v,h')) :
  zU2 P (fun u w' => ∃ D,C.Le D ∧ Inv B D h' w' ∧ Rel D v u ∧ Keep B w w') ((execOp ρ oper).run P w) := by
 unfold yo8 at hc
 split at hc
 ·rename_i r hr
  injection hc with hc; subst hc
  split at hr
  ·obtain ⟨n,u,D,w',e1,e2,e3,e4,e5,e6⟩ := xR5 hi hr rfl hrel hev
   rw [e1]
   rcases e2 with rfl | ⟨rfl,rfl⟩
   ·exact ⟨D,e3,e4,e5,e6⟩
   ·exact ⟨D,e3,e4,e5,e6⟩
  ·cases hr
 split at hc
 ·rename_i r hr
  injection hc with hc; subst hc
  exact xw1 hG hi hr hρ hρf hrel hev
 ·split at hc
  ·simp only [Option.some.injEq,Prod.mk.injEq] at hc
   obtain ⟨rfl,rfl⟩ := hc
   simp [zd2,AO.quiet,za7] at hev
  ·cases hc
theorem yz8 {own : Bool} {o : Oper} {c : Call} (h : o.op = .defer c) : yz9 P own o = none := by
 simp [yz9,yo9,yo7,xA1,ya9,zV2,zf2,h]
theorem zO1 {ro : Option Nat} (hG : GamB P B G) (hi : Inv B C h w) {e : Nat → Option AV} (hr : RelT C e a) {ks ow : List Nat} {n : Nat} {ops : Array Oper} {k : Nat} {o : Oper} (ho : ops[k]? = some o) {s : Bool} {v : AV} {h' : Heap}
  (hs : zh9 G s (ze0 P B.gv ks n ow ops o) e h = some (v,h')) {Q : Exit → Act → World → Prop} {K : Act → World → Prop}
  (hK : ∀ u D w',C.Le D → Inv B D h' w' → Rel D v u → Keep B w w' → K (a.put o.dst u) w') : wpOpIn (fR ro) 0 P ops Q k K a w := by
 unfold wpOpIn
 simp only [ho]
 have notbot : ze0 P B.gv ks n ow ops o ≠ zf9 := fun e1 => by rw [e1,zr3] at hs; cases hs
 unfold ze0 at hs notbot
 split at hs
 ·rename_i ao xs hco
  split at hs
  ·rename_i ats hats
   split at hs
   ·rename_i hd
    have go : (match zs7 e ats with
      | some vs => if s && !(yo0 (owAt ow ats) ao).loud then (zf4 G h (yo0 (owAt ow ats) ao) vs).map fun v => (v,h) else zi4 G h (yo0 (owAt ow ats) ao) vs
      | none => none) = some (v,h') → o.wpIn (fR ro) 0 P a w K Q := by
     intro hm
     split at hm
     ·rename_i vs hvs
      have hev0 : ∃ ks h1 vs1,zL7 ks h vs = some (h1,vs1) ∧ zd2 G h1 ao vs1 = some (v,h') := by
       split at hm
       ·simp only [Option.map_eq_some_iff,Prod.mk.injEq] at hm
        obtain ⟨v',h1,rfl,rfl⟩ := hm
        exact ⟨[],_,vs,rfl,yW1 (zM9 h1)⟩
       ·exact yH1 hm
      obtain ⟨pks,h1,vs1,hpre,hev⟩ := hev0
      obtain ⟨C',hCC,hi',hr'⟩ := yf0 hi (zT2 hi hr hats hvs) hpre
      have hK : ∀ u D w',C'.Le D → Inv B D h' w' → Rel D v u → Keep B w w' → K (a.put o.dst u) w' := fun u D w' q => hK u D w' (hCC.trans q)
      have hc := xc9 hG hi' hco (ρ := a.eval) (fun _ => rfl) (fun _ => rfl) hr' hev
      unfold Oper.wpIn
      refine ⟨fun _ _ => trivial,?_⟩
      have hsem : Oper.semAt (fR ro).round a.eval o = execOp a.eval o := Oper.semAt_eq _ _ _ fun c hcd => by
       unfold yo8 at hco
       have hk : (if (o.dst.map fun t => ow.contains (5000000 + t)).getD false then xo1 P ((o.dst.map fun t => ow.contains t).getD false) o.op else none) = none := by simp [xo1,hcd]
       rw [yz8 hcd,hk] at hco
       simp only at hco
       split at hco
       ·simp only [Option.some.injEq,Prod.mk.injEq] at hco
        obtain ⟨rfl,rfl⟩ := hco
        simp [zd2,AO.quiet,za7] at hev
       ·cases hco
      rw [hsem]
      generalize (execOp a.eval o).run P w = res at hc
      cases res with
      | halt x w' => exact hc.elim
      | ok nx w' =>
       cases nx with
       | value u => obtain ⟨D,k1,k2,k3,k4⟩ := hc; exact hK u D w' k1 k2 k3 k4
       | skip => obtain ⟨D,k1,k2,k3,k4⟩ := hc; exact hK _ D w' k1 k2 k3 k4
       | enter f args =>
        refine ⟨zV1,yh2 (Calls.mono hc fun e w'' hk => ?_)⟩
        obtain ⟨u,rfl,D,k1,k2,k3,k4⟩ := hk
        exact hK u D w'' k1 k2 k3 k4
       | round l f tmps assign body =>
        refine ⟨zV1,yT8 (RoundIn.mono hc fun e w'' hk => ?_)⟩
        obtain ⟨u,rfl,D,k1,k2,k3,k4⟩ := hk
        exact hK u D w'' k1 k2 k3 k4
       | _ => exact hc.elim
     ·cases hm
    have undef_rel : Rel C zz7 undef := .tup [] #[] rfl (fun i c v hc => by simp at hc)
    split at hs
    ·rename_i hg
     have hw : Region.wanted o (yielded ops a.tmps) = true := by simp [Region.wanted,hg]
     rw [if_pos hw]
     exact go hs
    ·rename_i j b hg
     split at hs
     ·rename_i t ht
      simp only [zh9] at hs
      split at hs
      ·rename_i b' hb'
       obtain ⟨u,hu1,hu2⟩ := hr t _ hb'
       have := zg4 hu2; subst this
       have hy : yielded ops a.tmps j = some b' := by simp [yielded,ht,hu1]
       split at hs
       ·rename_i hbb
        rw [if_pos (by simp [Region.wanted,hg,hy,hbb])]
        exact go hs
       ·rename_i hbb
        rw [if_neg (by simp [Region.wanted,hg,hy,hbb])]
        simp only [Option.some.injEq,Prod.mk.injEq] at hs; obtain ⟨rfl,rfl⟩ := hs
        exact ⟨fun _ _ => trivial,hK undef C w (.refl C) hi undef_rel (Keep.refl _ _)⟩
      ·rename_i hb'
       obtain ⟨u,hu1,hu2⟩ := hr t _ hb'
       have hy : yielded ops a.tmps j = none := by
        cases hu2
        simp [yielded,ht,hu1]
       rw [if_neg (by simp [Region.wanted,hg,hy])]
       simp only [Option.some.injEq,Prod.mk.injEq] at hs; obtain ⟨rfl,rfl⟩ := hs
       exact ⟨fun _ _ => trivial,hK undef C w (.refl C) hi undef_rel (Keep.refl _ _)⟩
      ·cases hs
     ·rw [zr3] at hs; cases hs
   ·rw [zr3] at hs; cases hs
  ·rw [zr3] at hs; cases hs
 ·rw [zr3] at hs; cases hs
theorem zt5 {ks ow : List Nat} {n : Nat} {ops : Array Oper} {o : Oper} (hne : ze0 P B.gv ks n ow ops o ≠ zf9) :
  (ze0 P B.gv ks n ow ops o).dst = o.dst ∧ (ze0 P B.gv ks n ow ops o).kept = (o.dst.map fun t => ks.contains t).getD false ∧ (∀ t,o.dst = some t → t < n) := by
 unfold ze0 at hne ⊢
 split at hne
 ·split at hne
  ·split at hne
   ·rename_i hd
    have hd' : ∀ t,o.dst = some t → t < n := fun t ht => by simpa [ht] using hd
    rw [if_pos hd]
    split at hne
    ·exact ⟨rfl,rfl,hd'⟩
    ·split at hne
     ·exact ⟨rfl,rfl,hd'⟩
     ·exact absurd rfl hne
   ·exact absurd rfl hne
  ·exact absurd rfl hne
 ·exact absurd rfl hne
def Sep (ks : List Nat) (env : List (Nat × AV)) : Prop := ∀ t v,lkp t env = some v → ks.contains t = false
def Keys (ks : List Nat) (fr : List (Nat × AV)) : Prop := ∀ t v,lkp t fr = some v → ks.contains t = true
theorem zP1 (t : Nat) (v : AV) : ∀ (l : List (Nat × AV)) (k : Nat),lkp k (upd t v l) = if k = t then (lkp k l).map (fun _ => v) else lkp k l
 | [],k => by simp [upd,lkp]
 | (k',x) :: r,k => by
  simp only [upd]
  by_cases h1 : t = k'
  ·subst h1
   simp only [if_true,lkp]
   by_cases h2 : k = t
   ·simp [h2]
   ·simp [h2]
  ·simp only [if_neg h1,lkp,zP1 t v r k]
   by_cases h2 : k = k'
   ·subst h2
    simp only [if_true]
    rw [if_neg (fun e => h1 e.symm)]
   ·simp only [if_neg h2]
theorem zV5 {ks : List Nat} {env fr env' fr' : List (Nat × AV)} {dst : Option Nat} {kept : Bool} {v : AV} {h h' : Heap} (hsep : Sep ks env) (hk : kept = (dst.map fun t => ks.contains t).getD false)
  (hb : zs3 dst kept env fr (some (v,h)) = .ok env' fr' h') : h' = h ∧ Sep ks env' ∧ (Keys ks fr → Keys ks fr') ∧ ∀ t x,getT env' fr' t = some x → (dst = some t ∧ x = v) ∨ (dst ≠ some t ∧ getT env fr t = some x) := by
 unfold zs3 at hb
 cases dst with
 | none =>
  simp only [R.ok.injEq] at hb; obtain ⟨rfl,rfl,rfl⟩ := hb
  exact ⟨rfl,hsep,id,fun t x hx => .inr ⟨by simp,hx⟩⟩
 | some d =>
  simp only [Option.map_some,Option.getD_some] at hk
  simp only at hb
  split at hb
  ·rename_i hkt
   simp only [R.ok.injEq] at hb; obtain ⟨rfl,rfl,rfl⟩ := hb
   refine ⟨rfl,hsep,fun hks t x hx => ?_,fun t x hx => ?_⟩
   ·rw [zP1] at hx
    split at hx
    ·rename_i e; subst e
     simp only [Option.map_eq_some_iff] at hx
     obtain ⟨y,hy,_⟩ := hx
     exact hks t y hy
    ·exact hks t x hx
   by_cases htd : t = d
   ·subst htd
    left
    have hn : lkp t env = none := by
     cases hl : lkp t env with
     | none => rfl
     | some y => have := hsep t y hl; rw [← hk,hkt] at this; cases this
    simp only [getT,hn,zP1,if_true,Option.map_eq_some_iff] at hx
    obtain ⟨_,_,rfl⟩ := hx
    exact ⟨rfl,rfl⟩
   ·right
    refine ⟨fun e => htd (by injection e with e; exact e.symm),?_⟩
    simpa only [getT,zP1,if_neg htd] using hx
  ·rename_i hkt
   simp only [R.ok.injEq] at hb; obtain ⟨rfl,rfl,rfl⟩ := hb
   refine ⟨rfl,fun t x hx => ?_,id,fun t x hx => ?_⟩
   ·simp only [lkp] at hx
    split at hx
    ·rename_i e; subst e; rw [← hk]; simpa using hkt
    ·exact hsep t x hx
   ·by_cases htd : t = d
    ·subst htd
     left; simp only [getT,lkp,if_true,Option.some.injEq] at hx; exact ⟨rfl,hx.symm⟩
    ·right
     refine ⟨fun e => htd (by injection e with e; exact e.symm),?_⟩
     simpa only [getT,lkp,if_neg htd] using hx
theorem RelT.put {e e' : Nat → Option AV} (hr : RelT C e a) {dst : Option Nat} {v : AV} {u : Value} (hu : Rel C v u) (hd : ∀ t,dst = some t → t < a.tmps.size) (he : ∀ t x,e' t = some x → (dst = some t ∧ x = v) ∨ (dst ≠ some t ∧ e t = some x)) : RelT C e' (a.put dst u) := by
 intro t x hx
 rcases he t x hx with ⟨h1,rfl⟩ | ⟨h1,h2⟩
 ·subst h1
  exact ⟨u,by simp [Act.put,hd t rfl],hu⟩
 ·obtain ⟨y,h3,h4⟩ := hr t x h2
  refine ⟨y,?_,h4⟩
  cases dst with
  | none => exact h3
  | some d =>
   simp only [Act.put]
   rw [Array.getElem?_setIfInBounds_ne (fun e => h1 (by rw [e]))]
   exact h3
structure StOK (ks : List Nat) (n : Nat) (B : Base) (C : Cx) (env fr : List (Nat × AV)) (h : Heap) (a : Act) (w : World) : Prop where
 inv : Inv B C h w
 rel : RelT C (getT env fr) a
 sep : Sep ks env
 keys : Keys ks fr
 size : n ≤ a.tmps.size
theorem zI6 (G : Gam) (s : Bool) : ∀ is : List MI,run G s is .bad = .bad
 | [] => rfl
 | i :: is => by simp only [run,xl9]; exact zI6 G s is
theorem zP3 {ro : Option Nat} (hG : GamB P B G) {ks ow : List Nat} {n : Nat} {ops : Array Oper} {s : Bool} {Q : Exit → Act → World → Prop} {d : List Deferred} {w0 : World} {C0 : Cx} {env' fr' : List (Nat × AV)} {h' : Heap} :
  ∀ (l : List Nat) (os : List Oper) (env fr : List (Nat × AV)) (h : Heap) (C : Cx) (a : Act) (w : World),l.map (fun i => ops[i]?) = os.map some → StOK ks n B C env fr h a w → a.defers = d → C0.Le C → Keep B w0 w →
   run G s (os.map (ze0 P B.gv ks n ow ops)) (.ok env fr h) = .ok env' fr' h' →
   (∀ D a' w',C0.Le D → StOK ks n B D env' fr' h' a' w' → a'.defers = d → Keep B w0 w' → Q .normal a' w') → wpOpsIn (fR ro) 0 P ops Q l a w
 | [],os,env,fr,h,C,a,w,hl,hst,hd,hle,hbw,hrun,hQ => by
  cases os with
  | nil =>
   simp only [List.map_nil,run,R.ok.injEq] at hrun; obtain ⟨rfl,rfl,rfl⟩ := hrun
   exact hQ C a w hle hst hd hbw
  | cons _ _ => simp at hl
 | i :: l,os,env,fr,h,C,a,w,hl,hst,hd,hle,hbw,hrun,hQ => by
  cases os with
  | nil => simp at hl
  | cons o os =>
   simp only [List.map_cons,List.cons.injEq] at hl
   obtain ⟨ho,hl⟩ := hl
   rw [wpOpsIn_cons]
   simp only [List.map_cons,run,xl9] at hrun
   cases hs : zh9 G s (ze0 P B.gv ks n ow ops o) (getT env fr) h with
   | none => rw [hs] at hrun; simp only [zs3,zI6] at hrun; cases hrun
   | some vh =>
    obtain ⟨v,h1⟩ := vh
    rw [hs] at hrun
    have hne : ze0 P B.gv ks n ow ops o ≠ zf9 := fun e1 => by rw [e1,zr3] at hs; cases hs
    obtain ⟨c1,c2,c3⟩ := zt5 hne
    rw [c1,c2] at hrun
    generalize hb : zs3 o.dst ((o.dst.map fun t => ks.contains t).getD false) env fr (some (v,h1)) = r1 at hrun
    cases r1 with
    | bad => rw [zI6] at hrun; cases hrun
    | ok env1 fr1 h2 =>
     obtain ⟨rfl,hsep,hkeys,hget⟩ := zV5 hst.sep rfl hb
     refine zO1 hG hst.inv hst.rel ho hs (fun u D w' k1 k2 k3 k4 => ?_)
     exact zP3 hG l os env1 fr1 h2 D (a.put o.dst u) w' hl
      ⟨k2,(hst.rel.mono k1).put k3 (fun t ht => Nat.lt_of_lt_of_le (c3 t ht) hst.size) hget,hsep,hkeys hst.keys,by rw [zL6]; exact hst.size⟩ (by rw [zA3]; exact hd) (hle.trans k1) (hbw.trans k4) hrun hQ
theorem yv5 (ops : Array Oper) : (List.range ops.size).map (fun i => ops[i]?) = ops.toList.map some := by
 apply List.ext_getElem?
 intro i
 by_cases hi : i < ops.size
 ·simp [hi]
 ·rw [List.getElem?_eq_none (by simp; omega),List.getElem?_eq_none (by simp; omega)]
theorem zC4 {ro : Option Nat} (hG : GamB P B G) {ks ow : List Nat} {n id : Nat} {ops : Array Oper} {Q : Exit → Act → World → Prop} {env fr env' fr' : List (Nat × AV)} {h' : Heap} (hst : StOK ks n B C env fr h a w)
  (hrun : run G false (za3 P B.gv ks n ow ops) (.ok env fr h) = .ok env' fr' h')
  (hQ : ∀ D a' w',C.Le D → StOK ks n B D env' fr' h' a' w' → a'.defers = a.defers → Keep B w w' → Q .normal a' w') : (Code.region id ops false).wpIn (fR ro) 0 P Q a w :=
 wpIn_region (zP3 hG (List.range ops.size) ops.toList env fr h C a w (yv5 ops) hst rfl (.refl C) (Keep.refl _ _) hrun hQ)
end
end Go.Proofs.YtopiadllkglamaaGreatDoor
namespace Go.Proofs.YtopiadllkglamaaGreatDoor
open Go.RowKit
def MI.reads (m : MI) : List Nat := m.args.filterMap (fun | .t n => some n | .c _ => none) ++ (match m.g with | some (t,_) => [t] | none => [])
def MI.apart (x y : MI) : Bool :=
 (match x.dst with | some d => !y.reads.contains d && y.dst != some d | none => true) && (match y.dst with | some d => !x.reads.contains d | none => true)
def zo7 (o : Oper) : List Nat := o.after.toList.filterMap fun e => if Region.binds .any e then some e.on else none
def ancs : List Oper → List (List Nat) → List (List Nat)
 | [],acc => acc
 | o :: os,acc => ancs os (acc ++ [(zo7 o ++ (zo7 o).flatMap fun i => acc.getD i []).eraseDups])
def AO.blind : AO → Bool
 | .mv | .pick | .bin _ | .un _ | .conv _ | .ext _ => true
 | _ => false
def zK0 (E : List Nat) (F : List (Nat × Nat)) (ops : List Oper) (mis : List MI) : Bool :=
 let as := ancs ops []
 let N := ops.length
 (List.range N).all fun k => (((ops[k]?).map zo7).getD []).all (fun i => decide (i < k)) &&
  (List.range N).all fun i => !decide (i < k) || ((as.getD k []).contains i || ((mis.getD i zf9).apart (mis.getD k zf9) && (!(mis.getD i zf9).o.loud && !(mis.getD k zf9).o.loud || (mis.getD i zf9).o.blind || (mis.getD k zf9).o.blind ||
   (E.contains k && !(mis.getD k zf9).o.loud && (List.range i).all fun j => !(mis.getD j zf9).o.loud) || (!(mis.getD i zf9).o.loud && F.contains (i,k + 1)))))
def yO7 (ops : List Oper) (mis : List MI) : Bool := zK0 [] [] ops mis
def xy1 (ops : List Oper) (mis : List MI) : List (Nat × Nat) :=
 let as := ancs ops []
 (List.range ops.length).flatMap fun i => if !(mis.getD i zf9).o.loud && !(mis.getD i zf9).o.blind then
  ((List.range ops.length).filter fun k => decide (i < k) && (mis.getD k zf9).o.loud && !(as.getD k []).contains i).map fun k => (i,k + 1) else []
def yo2 (ops : List Oper) (mis : List MI) : List Nat :=
 let as := ancs ops []
 (List.range ops.length).filter fun k => !(mis.getD k zf9).o.loud && !(mis.getD k zf9).o.blind && (List.range k).any fun i => (mis.getD i zf9).o.loud && !(as.getD k []).contains i
section
variable {P : Program} {B : Base} {C D : Cx} {h : Heap} {w w' : World} {G : Gam} {a : Act}
def Shut (ops : List Oper) (L : Nat → Bool) : Prop := ∀ j o,ops[j]? = some o → L j = true → ∀ i ∈ zo7 o,L i = true
theorem yb4 {all : List Oper} {L : Nat → Bool} (hL : Shut all L) : ∀ (os : List Oper) (acc : List (List Nat)) (pre : List Oper),all = pre ++ os → acc.length = pre.length →
  (∀ (j : Nat) o,all[j]? = some o → j < acc.length → (∀ i ∈ zo7 o,L i = true) → ∀ i ∈ acc.getD j [],L i = true) →
  ∀ (j : Nat) o,all[j]? = some o → (∀ i ∈ zo7 o,L i = true) → ∀ i ∈ (ancs os acc).getD j [],L i = true
 | [],acc,pre,he,hl,hacc,j,o,ho,hd,i,hi => by
  have : j < acc.length := by
   have := (List.getElem?_eq_some_iff.1 ho).1
   simp [he] at this; omega
  exact hacc j o ho this hd i hi
 | o1 :: os,acc,pre,he,hl,hacc,j,o,ho,hd,i,hi => by
  refine yb4 hL os _ (pre ++ [o1]) (by simp [he]) (by simp [hl]) (fun j o ho hj hd i hi => ?_) j o ho hd i hi
  by_cases hj2 : j < acc.length
  ·rw [List.getD_eq_getElem?_getD,List.getElem?_append_left hj2,← List.getD_eq_getElem?_getD] at hi
   exact hacc j o ho hj2 hd i hi
  ·have hj3 : j = acc.length := by simp at hj; omega
   subst hj3
   have : o = o1 := by
    rw [he,hl,List.getElem?_append_right (Nat.le_refl _)] at ho
    simpa using ho.symm
   subst this
   rw [List.getD_eq_getElem?_getD,List.getElem?_append_right (Nat.le_refl _)] at hi
   simp only [Nat.sub_self,List.getElem?_cons_zero,Option.getD_some,List.mem_eraseDups,List.mem_append,List.mem_flatMap] at hi
   rcases hi with hi | ⟨m,hm,hi⟩
   ·exact hd i hi
   ·have hml : L m = true := hd m hm
    by_cases hma : m < acc.length
    ·have hmall : m < all.length := by rw [he]; simp; omega
     exact hacc m all[m] (by simp [hmall]) hma (hL m all[m] (by simp [hmall]) hml) i hi
    ·rw [List.getD_eq_getElem?_getD,List.getElem?_eq_none (by omega)] at hi; simp at hi
structure Trace (G : Gam) (mis : List MI) (es : Nat → Nat → Option AV) (hs : Nat → Heap) (vs : Nat → AV) : Prop where
 step : ∀ (k : Nat) m,mis[k]? = some m → zh9 G true m (es k) (hs k) = some (vs k,hs (k + 1))
 put : ∀ (k : Nat) m,mis[k]? = some m → ∀ t x,es (k + 1) t = some x → (m.dst = some t ∧ x = vs k) ∨ (m.dst ≠ some t ∧ es k t = some x)
theorem yK1 {ks ow : List Nat} {n : Nat} {ops : Array Oper} {env' fr' : List (Nat × AV)} {h' : Heap} : ∀ (os : List Oper) (env fr : List (Nat × AV)) (h : Heap),Sep ks env →
  run G true (os.map (ze0 P B.gv ks n ow ops)) (.ok env fr h) = .ok env' fr' h' →
  ∃ es hs vs,Trace G (os.map (ze0 P B.gv ks n ow ops)) es hs vs ∧ es 0 = getT env fr ∧ hs 0 = h ∧ es os.length = getT env' fr' ∧ hs os.length = h' ∧ (Sep ks env' ∧ (Keys ks fr → Keys ks fr')) ∧
   (∀ (k : Nat) o,os[k]? = some o → ze0 P B.gv ks n ow ops o ≠ zf9)
 | [],env,fr,h,hsep,hrun => by
  simp only [List.map_nil,run,R.ok.injEq] at hrun; obtain ⟨rfl,rfl,rfl⟩ := hrun
  exact ⟨fun _ => getT env fr,fun _ => h,fun _ => .junk,⟨fun k m hm => by simp at hm,fun k m hm => by simp at hm⟩,rfl,rfl,rfl,rfl,⟨hsep,id⟩,fun k o hk => by simp at hk⟩
 | o :: os,env,fr,h,hsep,hrun => by
  simp only [List.map_cons,run,xl9] at hrun
  cases hs : zh9 G true (ze0 P B.gv ks n ow ops o) (getT env fr) h with
  | none => rw [hs] at hrun; simp only [zs3,zI6] at hrun; cases hrun
  | some vh =>
   obtain ⟨v,h1⟩ := vh
   rw [hs] at hrun
   have hne : ze0 P B.gv ks n ow ops o ≠ zf9 := fun e1 => by rw [e1,zr3] at hs; cases hs
   obtain ⟨c1,c2,c3⟩ := zt5 hne
   generalize hb : zs3 (ze0 P B.gv ks n ow ops o).dst (ze0 P B.gv ks n ow ops o).kept env fr (some (v,h1)) = r1 at hrun
   cases r1 with
   | bad => rw [zI6] at hrun; cases hrun
   | ok env1 fr1 h2 =>
    obtain ⟨rfl,hsep1,hk1,hget⟩ := zV5 hsep (by rw [c2,c1]) hb
    obtain ⟨es,hs',vs,ht,e1,e2,e3,e4,e5,e6⟩ := yK1 os env1 fr1 h2 hsep1 hrun
    refine ⟨fun k => match k with | 0 => getT env fr | k + 1 => es k,fun k => match k with | 0 => h | k + 1 => hs' k,fun k => match k with | 0 => v | k + 1 => vs k,⟨fun k m hm => ?_,fun k m hm t x hx => ?_⟩,rfl,rfl,e3,e4,⟨e5.1,fun hk => e5.2 (hk1 hk)⟩,fun k o' hk => ?_⟩
    ·cases k with
     | zero => simp at hm; subst hm; show _ = some (v,hs' 0); rw [e2]; exact hs
     | succ k => exact ht.step k m (by simpa using hm)
    ·cases k with
     | zero => simp at hm; subst hm; have hx' : es 0 t = some x := hx; rw [e1] at hx'; exact hget t x hx'
     | succ k => exact ht.put k m (by simpa using hm) t x hx
    ·cases k with
     | zero => simp at hk; subst hk; exact hne
     | succ k => exact e6 k o' (by simpa using hk)
def MI.dstAt (mis : List MI) (k : Nat) : Option Nat := (mis[k]?).bind (·.dst)
def MI.loudAt (mis : List MI) (k : Nat) : Bool := (mis.getD k zf9).o.loud
def Eat (mis : List MI) (e0 : Nat → Option AV) (vs : Nat → AV) (L : Nat → Bool) : Nat → Nat → Option AV
 | 0,t => e0 t
 | k + 1,t => if L k = true ∧ MI.dstAt mis k = some t then some (vs k) else Eat mis e0 vs L k t
def Hat (mis : List MI) (hs : Nat → Heap) (L : Nat → Bool) : Nat → Heap
 | 0 => hs 0
 | k + 1 => if L k = true ∧ MI.loudAt mis k = true then hs (k + 1) else Hat mis hs L k
theorem zw6 {mis : List MI} {es : Nat → Nat → Option AV} {hs : Nat → Heap} {vs : Nat → AV} (ht : Trace G mis es hs vs) {t : Nat} : ∀ (k : Nat) x,k ≤ mis.length → es k t = some x → Eat mis (es 0) vs (fun _ => true) k t = some x
 | 0,x,_,h => h
 | k + 1,x,hk,h => by
  have hm : mis[k]? = some mis[k] := by simp
  simp only [Eat]
  rcases ht.put k _ hm t x h with ⟨h1,rfl⟩ | ⟨h1,h2⟩
  ·rw [if_pos ⟨trivial,by simp only [MI.dstAt,hm,Option.bind_some]; exact h1⟩]
  ·rw [if_neg (fun e => h1 (by simpa only [MI.dstAt,hm,Option.bind_some] using e.2))]
   exact zw6 ht k x (by omega) h2
theorem yr2 {mis : List MI} {e0 : Nat → Option AV} {vs : Nat → AV} {L : Nat → Bool} {t : Nat} : ∀ (k : Nat),(∀ i,i < k → MI.dstAt mis i = some t → L i = true) → Eat mis e0 vs L k t = Eat mis e0 vs (fun _ => true) k t
 | 0,_ => rfl
 | k + 1,h => by
  simp only [Eat,true_and]
  by_cases hd : MI.dstAt mis k = some t
  ·rw [if_pos ⟨h k (by omega) hd,hd⟩,if_pos hd]
  ·rw [if_neg (fun e => hd e.2),if_neg hd]; exact yr2 k (fun i hi => h i (by omega))
theorem yD2 {mis : List MI} {e0 : Nat → Option AV} {vs : Nat → AV} {L : Nat → Bool} {t k : Nat} : ∀ (d : Nat),(∀ i,k ≤ i → i < k + d → MI.dstAt mis i = some t → L i = false) → Eat mis e0 vs L (k + d) t = Eat mis e0 vs L k t
 | 0,_ => rfl
 | d + 1,h => by
  rw [show k + (d + 1) = (k + d) + 1 by omega]
  simp only [Eat]
  rw [if_neg (fun e => by have := h (k + d) (by omega) (by omega) e.2; rw [e.1] at this; cases this)]
  exact yD2 d (fun i h1 h2 => h i h1 (by omega))
theorem yb9 {mis : List MI} {e0 : Nat → Option AV} {vs : Nat → AV} {L L' : Nat → Bool} {t : Nat} : ∀ (k : Nat),(∀ i,i < k → MI.dstAt mis i = some t → L' i = L i) → Eat mis e0 vs L' k t = Eat mis e0 vs L k t
 | 0,_ => rfl
 | k + 1,h => by
  simp only [Eat]
  by_cases hd : MI.dstAt mis k = some t
  ·rw [h k (by omega) hd,yb9 k (fun i hi => h i (by omega))]
  ·rw [if_neg (fun e => hd e.2),if_neg (fun e => hd e.2)]; exact yb9 k (fun i hi => h i (by omega))
theorem zQ8 {mis : List MI} {hs : Nat → Heap} {L : Nat → Bool} : ∀ (k : Nat),(∀ i,i < k → MI.loudAt mis i = true → L i = true) → (∀ i,i < k → MI.loudAt mis i = false → hs (i + 1) = hs i) → Hat mis hs L k = hs k
 | 0,_,_ => rfl
 | k + 1,h,hq => by
  simp only [Hat]
  by_cases hd : MI.loudAt mis k = true
  ·rw [if_pos ⟨h k (by omega) hd,hd⟩]
  ·rw [if_neg (fun e => hd e.2),zQ8 k (fun i hi => h i (by omega)) (fun i hi => hq i (by omega)),hq k (by omega) (by simpa using hd)]
theorem yj3 {mis : List MI} {hs : Nat → Heap} {L : Nat → Bool} {k : Nat} : ∀ (d : Nat),(∀ i,k ≤ i → i < k + d → MI.loudAt mis i = true → L i = false) → Hat mis hs L (k + d) = Hat mis hs L k
 | 0,_ => rfl
 | d + 1,h => by
  rw [show k + (d + 1) = (k + d) + 1 by omega]
  simp only [Hat]
  rw [if_neg (fun e => by have := h (k + d) (by omega) (by omega) e.2; rw [e.1] at this; cases this)]
  exact yj3 d (fun i h1 h2 => h i h1 (by omega))
theorem xl2 {e e' : Nat → Option AV} {x : At} (h : ∀ t,x = .t t → ∀ v,e t = some v → e' t = some v) {v : AV} (hv : getA e x = some v) : getA e' x = some v := by
 cases x with
 | t n => exact h n rfl v hv
 | c v => exact hv
theorem yg4 {e e' : Nat → Option AV} : ∀ {xs : List At} {vs : List AV},(∀ t,At.t t ∈ xs → ∀ v,e t = some v → e' t = some v) → zs7 e xs = some vs → zs7 e' xs = some vs
 | [],vs,_,h => h
 | x :: xs,vs,hm,h => by
  simp only [zs7] at h ⊢
  split at h
  ·rename_i v vs' h1 h2
   rw [xl2 (fun t ht => hm t (by simp [ht])) h1,yg4 (fun t ht => hm t (by simp [ht])) h2]
   exact h
  ·cases h
theorem zO2 {s : Bool} {m : MI} {e e' : Nat → Option AV} {r : AV × Heap} (hm : ∀ t ∈ m.reads,∀ v,e t = some v → e' t = some v) (h1 : zh9 G s m e h = some r) : zh9 G s m e' h = some r := by
 have hargs : ∀ vs,zs7 e m.args = some vs → zs7 e' m.args = some vs := fun vs => yg4 fun t ht => hm t (by simp only [MI.reads,List.mem_append,List.mem_filterMap]; exact .inl ⟨_,ht,rfl⟩)
 have go : ∀ {r},(match zs7 e m.args with
   | some vs => if s && !m.o.loud then (zf4 G h m.o vs).map fun v => (v,h) else zi4 G h m.o vs
   | none => none) = some r → (match zs7 e' m.args with
   | some vs => if s && !m.o.loud then (zf4 G h m.o vs).map fun v => (v,h) else zi4 G h m.o vs
   | none => none) = some r := fun {r} hr => by
  split at hr
  ·rename_i vs hvs; rw [hargs vs hvs]; exact hr
  ·cases hr
 unfold zh9 at h1 ⊢
 cases hg : m.g with
 | none => rw [hg] at h1; exact go h1
 | some tw =>
  obtain ⟨t,want⟩ := tw
  rw [hg] at h1
  have ht : t ∈ m.reads := by simp [MI.reads,hg]
  simp only at h1 ⊢
  split at h1
  ·rename_i b hb
   rw [hm t ht _ hb]
   simp only
   split at h1
   ·rename_i hbw; rw [if_pos hbw]; exact go h1
   ·rename_i hbw; rw [if_neg hbw]; exact h1
  ·rename_i hb; rw [hm t ht _ hb]; exact h1
  ·cases h1
theorem yS7 {m : MI} {e : Nat → Option AV} {v : AV} {h' : Heap} (hq : m.o.loud = false) (h1 : zh9 G true m e h = some (v,h')) : h' = h := by
 have go : ∀ {r : AV × Heap},(match zs7 e m.args with
   | some vs => if true && !m.o.loud then (zf4 G h m.o vs).map fun v => (v,h) else zi4 G h m.o vs
   | none => none) = some r → r.2 = h := fun {r} hr => by
  split at hr
  ·simp only [hq,Bool.not_false,Bool.and_self,if_true,Option.map_eq_some_iff] at hr
   obtain ⟨_,_,rfl⟩ := hr; rfl
  ·cases hr
 unfold zh9 at h1
 simp only at h1
 split at h1
 ·exact go h1
 ·split at h1
  ·split at h1
   ·exact go h1
   ·injection h1 with h1; injection h1 with _ h1; exact h1.symm
  ·injection h1 with h1; injection h1 with _ h1; exact h1.symm
  ·cases h1
theorem yI5 {o : AO} (hb : o.blind = true) : o.quiet = true := by cases o <;> first | rfl | cases hb
theorem zE4 {o : AO} (hb : o.blind = true) : o.loud = false := by cases o <;> first | rfl | cases hb
theorem yX3 {o : AO} (hb : o.blind = true) (h h' : Heap) (vs : List AV) : za7 h o vs = za7 h' o vs := by
 cases o <;> first | exact absurd hb Bool.false_ne_true | (rcases vs with _ | ⟨x,_ | ⟨y,_ | ⟨z,_ | ⟨u,r⟩⟩⟩⟩ <;> first | rfl | (cases x <;> rfl))
theorem yX2 {m : MI} {e : Nat → Option AV} {h h1 : Heap} {v : AV} (hb : m.o.blind = true) (hs : zh9 G true m e h = some (v,h1)) (h2 : Heap) : zh9 G true m e h2 = some (v,h2) := by
 have hl := zE4 hb
 have hq := yI5 hb
 have hst : ∀ vs,zf4 G h m.o vs = zf4 G h2 m.o vs := fun vs => by
  unfold zf4; rw [if_pos hq,if_pos hq]; exact yX3 hb _ _ vs
 have go : (match zs7 e m.args with
   | some vs => if true && !m.o.loud then (zf4 G h m.o vs).map fun v => (v,h) else zi4 G h m.o vs
   | none => none) = some (v,h1) → (match zs7 e m.args with
   | some vs => if true && !m.o.loud then (zf4 G h2 m.o vs).map fun v => (v,h2) else zi4 G h2 m.o vs
   | none => none) = some (v,h2) := fun hr => by
  split at hr
  ·rename_i vs hvs
   simp only [hl,Bool.not_false,Bool.and_self,if_true,Option.map_eq_some_iff] at hr ⊢
   obtain ⟨x,hx,hy⟩ := hr
   injection hy with hy _
   exact ⟨x,by rw [← hst]; exact hx,by rw [hy]⟩
  ·cases hr
 unfold zh9 at hs ⊢
 simp only at hs ⊢
 split at hs
 ·exact go hs
 ·split at hs
  ·split at hs
   ·rename_i hbw; rw [if_pos hbw]; exact go hs
   ·rename_i hbw; rw [if_neg hbw]; injection hs with hs; injection hs with hs _; rw [hs]
  ·injection hs with hs; injection hs with hs _; rw [hs]
  ·cases hs
theorem zN3 {mis : List MI} {hs : Nat → Heap} {L L' : Nat → Bool} : ∀ (k : Nat),(∀ i,i < k → MI.loudAt mis i = true → L' i = L i) → Hat mis hs L' k = Hat mis hs L k
 | 0,_ => rfl
 | k + 1,h => by
  simp only [Hat]
  by_cases hd : MI.loudAt mis k = true
  ·rw [h k (by omega) hd,zN3 k (fun i hi => h i (by omega))]
  ·rw [if_neg (fun e => hd e.2),if_neg (fun e => hd e.2)]; exact zN3 k (fun i hi => h i (by omega))
def zG7 (N : Nat) (L : Nat → Bool) : Nat := ((List.range N).filter fun i => !L i).length
theorem zB1 {α : Type} {p q : α → Bool} (hpq : ∀ x,q x = true → p x = true) : ∀ {l : List α} {k : α},k ∈ l → p k = true → q k = false → (l.filter q).length < (l.filter p).length
 | [],k,hk,_,_ => by simp at hk
 | x :: l,k,hk,h1,h2 => by
  have hle : ∀ l : List α,(l.filter q).length ≤ (l.filter p).length := fun l => by
   induction l with
   | nil => simp
   | cons y l ih =>
    simp only [List.filter_cons]
    cases hq : q y with
    | true => rw [hpq y hq]; simpa using ih
    | false =>
     cases hp : p y with
     | true => simp; omega
     | false => simpa using ih
  rcases List.mem_cons.1 hk with rfl | hk
  ·simp only [List.filter_cons,h1,h2,if_true,Bool.false_eq_true,if_false,List.length_cons]
   have := hle l; omega
  ·have ih := zB1 hpq hk h1 h2
   simp only [List.filter_cons]
   cases hq : q x with
   | true => rw [hpq x hq]; simpa using ih
   | false =>
    cases hp : p x with
    | true => simp; omega
    | false => simpa using ih
theorem yR0 {mis : List MI} {hs : Nat → Heap} {L : Nat → Bool} : ∀ (k : Nat),(∀ i,i < k → MI.loudAt mis i = true → L i = false) → Hat mis hs L k = hs 0
 | 0,_ => rfl
 | k + 1,h => by
  simp only [Hat]
  rw [if_neg (fun e => by rw [h k (by omega) e.2] at e; cases e.1)]
  exact yR0 k fun i hi => h i (by omega)
theorem yA8 {ro : Option Nat} {E : List Nat} {F : List (Nat × Nat)} (hG : GamB P B G) {ks ow : List Nat} {n : Nat} {ops : Array Oper} {Q : Exit → Act → World → Prop} {d : List Deferred} {w0 : World} {C0 : Cx} {es : Nat → Nat → Option AV} {hs : Nat → Heap} {vs : Nat → AV}
  (hok : zK0 E F ops.toList (za3 P B.gv ks n ow ops) = true) (hE : ∀ k ∈ E,∀ m,(za3 P B.gv ks n ow ops)[k]? = some m → zh9 G true m (es k) (hs 0) = some (vs k,hs 0))
  (hF : ∀ k p,F.contains (k,p) = true → k < p → p ≤ ops.size → ∀ m,(za3 P B.gv ks n ow ops)[k]? = some m → zh9 G true m (es k) (hs p) = some (vs k,hs p)) (ht : Trace G (za3 P B.gv ks n ow ops) es hs vs) (hnb : ∀ (k : Nat) o,ops.toList[k]? = some o → ze0 P B.gv ks n ow ops o ≠ zf9)
  (hQ : ∀ D a' w',C0.Le D → Inv B D (hs ops.size) w' → RelT D (es ops.size) a' → n ≤ a'.tmps.size → a'.defers = d → Keep B w0 w' → Q .normal a' w') :
  ∀ (fuel : Nat) (listed : Array Bool) (C : Cx) (a : Act) (w : World),listed.size = ops.size → Shut ops.toList (fun i => listed.getD i false) → zG7 ops.size (fun i => listed.getD i false) ≤ fuel → C0.Le C → Keep B w0 w →
   Inv B C (Hat (za3 P B.gv ks n ow ops) hs (fun i => listed.getD i false) ops.size) w → RelT C (Eat (za3 P B.gv ks n ow ops) (es 0) vs (fun i => listed.getD i false) ops.size) a → n ≤ a.tmps.size → a.defers = d →
   wpAnyIn (fR ro) 0 P .any ops Q fuel listed a w := by
 have hmlen : (za3 P B.gv ks n ow ops).length = ops.size := by simp [za3]
 have hmget : ∀ (k : Nat) o,ops[k]? = some o → (za3 P B.gv ks n ow ops)[k]? = some (ze0 P B.gv ks n ow ops o) := fun k o ho => by simp [za3,ho]
 have hmgetD : ∀ (k : Nat) o,ops[k]? = some o → (za3 P B.gv ks n ow ops).getD k zf9 = ze0 P B.gv ks n ow ops o := fun k o ho => by rw [List.getD_eq_getElem?_getD,hmget k o ho]; rfl
 have chk : ∀ k,k < ops.size → (∀ o,ops[k]? = some o → ∀ i ∈ zo7 o,i < k) ∧ ∀ i,i < k → ((ancs ops.toList []).getD k []).contains i = true ∨
   (((za3 P B.gv ks n ow ops).getD i zf9).apart ((za3 P B.gv ks n ow ops).getD k zf9) = true ∧ ((((za3 P B.gv ks n ow ops).getD i zf9).o.loud = false ∧ ((za3 P B.gv ks n ow ops).getD k zf9).o.loud = false) ∨ ((za3 P B.gv ks n ow ops).getD i zf9).o.blind = true ∨ ((za3 P B.gv ks n ow ops).getD k zf9).o.blind = true ∨ (E.contains k = true ∧ ((za3 P B.gv ks n ow ops).getD k zf9).o.loud = false ∧ ∀ j,j < i → ((za3 P B.gv ks n ow ops).getD j zf9).o.loud = false) ∨ (((za3 P B.gv ks n ow ops).getD i zf9).o.loud = false ∧ F.contains (i,k + 1) = true))) := by
  intro k hk
  unfold zK0 at hok
  have h1 := List.all_eq_true.1 hok k (List.mem_range.2 (by simpa using hk))
  simp only [Bool.and_eq_true] at h1
  refine ⟨fun o ho i hi => ?_,fun i hi => ?_⟩
  ·have h2 := h1.1
   rw [show ops.toList[k]? = some o by simpa using ho] at h2
   have := List.all_eq_true.1 h2 i hi
   simpa using this
  ·have h2 := List.all_eq_true.1 h1.2 i (List.mem_range.2 (by simp; omega))
   simp only [Bool.or_eq_true,Bool.not_eq_true',decide_eq_false_iff_not,Bool.and_eq_true] at h2
   rcases h2 with h2 | h2 | h2
   ·omega
   ·exact .inl h2
   ·refine .inr ⟨h2.1,?_⟩
    rcases h2.2 with (((h3 | h3) | h3) | h3) | h3
    ·exact .inl h3
    ·exact .inr (.inl h3)
    ·exact .inr (.inr (.inl h3))
    ·refine .inr (.inr (.inr (.inl ⟨h3.1.1,h3.1.2,fun j hj => ?_⟩)))
     have := List.all_eq_true.1 h3.2 j (List.mem_range.2 hj)
     simpa using this
    ·exact .inr (.inr (.inr (.inr h3)))
 have waits : ∀ (L : Nat → Bool),Shut ops.toList L → ∀ k o,ops[k]? = some o → (∀ i ∈ zo7 o,L i = true) → ∀ i,((ancs ops.toList []).getD k []).contains i = true → L i = true := fun L hL k o ho hd i hi =>
  yb4 hL ops.toList [] [] rfl rfl (fun j o _ hj => by simp at hj) k o (by simpa using ho) hd i (by simpa using hi)
 have quiet : ∀ i,i < ops.size → MI.loudAt (za3 P B.gv ks n ow ops) i = false → hs (i + 1) = hs i := fun i hi hq => by
  have ho : ops[i]? = some ops[i] := by simp [hi]
  have hs1 := ht.step i _ (hmget i _ ho)
  refine yS7 ?_ hs1
  unfold MI.loudAt at hq; rw [hmgetD i _ ho] at hq; exact hq
 intro fuel
 induction fuel with
 | zero =>
  intro listed C a w hsize hshut hcnt hle hbw hinv hrel htm hdf
  have hall : ∀ i,i < ops.size → listed.getD i false = true := fun i hi => by
   cases hb : listed.getD i false with
   | true => rfl
   | false =>
    have : i ∈ (List.range ops.size).filter fun i => !listed.getD i false := List.mem_filter.2 ⟨List.mem_range.2 hi,by rw [hb]; rfl⟩
    have := List.length_pos_of_mem this
    unfold zG7 at hcnt; dsimp only at hcnt; omega
  refine ⟨?_,?_⟩
  ·cases hr : Region.ready .any ops listed with
   | nil => rfl
   | cons i r =>
    have hm : i ∈ Region.ready .any ops listed := by rw [hr]; simp
    obtain ⟨h1,oi,h2,_⟩ := mem_ready.1 hm
    have hi : i < ops.size := (Array.getElem?_eq_some_iff.1 h2).1
    have h3 := hall i hi
    have hi' : i < listed.size := by omega
    simp [hi'] at h1 h3; rw [h1] at h3; cases h3
  ·refine hQ C a w hle ?_ (fun t x hx => hrel t x ?_) htm hdf hbw
   ·rw [← zQ8 ops.size (fun i hi _ => hall i hi) (fun i hi => quiet i hi)]; exact hinv
   ·rw [yr2 ops.size (fun i hi _ => hall i hi)]
    exact zw6 ht ops.size x (by omega) hx
 | succ fuel ih =>
  intro listed C a w hsize hshut hcnt hle hbw hinv hrel htm hdf
  refine ⟨fun hr => ?_,fun k hk => ?_⟩
  ·
   have hall : ∀ i,i < ops.size → listed.getD i false = true := by
    intro i
    induction i using Nat.strongRecOn with
    | _ i ihi =>
     intro hi
     cases hb : listed.getD i false with
     | true => rfl
     | false =>
      have ho : ops[i]? = some ops[i] := by simp [hi]
      have : i ∈ Region.ready .any ops listed := mem_ready.2 ⟨by
       have hi' : i < listed.size := by omega
       simp [hi'] at hb ⊢; exact hb,ops[i],ho,fun e he hb => by
       have hlt := (chk i hi).1 _ ho e.on (List.mem_filterMap.2 ⟨e,by simpa using he,by rw [if_pos hb]⟩)
       exact ihi e.on hlt (by omega)⟩
      rw [hr] at this; cases this
   refine hQ C a w hle ?_ (fun t x hx => hrel t x ?_) htm hdf hbw
   ·rw [← zQ8 ops.size (fun i hi _ => hall i hi) (fun i hi => quiet i hi)]; exact hinv
   ·rw [yr2 ops.size (fun i hi _ => hall i hi)]
    exact zw6 ht ops.size x (by omega) hx
  ·obtain ⟨hun,o,ho,hwait⟩ := mem_ready.1 hk
   have hkN : k < ops.size := (Array.getElem?_eq_some_iff.1 ho).1
   have hkl : k < listed.size := by omega
   have hun' : listed.getD k false = false := by simp [hkl] at hun ⊢; exact hun
   have hdir : ∀ i ∈ zo7 o,listed.getD i false = true := fun i hi => by
    obtain ⟨e,he,h1⟩ := List.mem_filterMap.1 hi
    split at h1
    ·rename_i hb; injection h1 with h1; subst h1; exact hwait e (by simpa using he) hb
    ·cases h1
   have hanc := waits _ hshut k o ho hdir
   have hm := hmget k o ho
   have hmD := hmgetD k o ho
   have later : ∀ j,k < j → j < ops.size → ((ancs ops.toList []).getD j []).contains k = true → listed.getD j false = false := fun j h1 h2 h3 => by
    cases hb : listed.getD j false with
    | false => rfl
    | true =>
     have hoj : ops[j]? = some ops[j] := by simp [h2]
     have := waits _ hshut j _ hoj (hshut j ops[j] (by simp) hb) k h3
     rw [hun'] at this; cases this
   have apart2 : ∀ i j,i < j → j < ops.size → ((((za3 P B.gv ks n ow ops).getD i zf9).o.loud = false ∧ ((za3 P B.gv ks n ow ops).getD j zf9).o.loud = false) ∨ ((za3 P B.gv ks n ow ops).getD i zf9).o.blind = true ∨ ((za3 P B.gv ks n ow ops).getD j zf9).o.blind = true ∨ (E.contains j = true ∧ ((za3 P B.gv ks n ow ops).getD j zf9).o.loud = false ∧ ∀ j',j' < i → ((za3 P B.gv ks n ow ops).getD j' zf9).o.loud = false) ∨ (((za3 P B.gv ks n ow ops).getD i zf9).o.loud = false ∧ F.contains (i,j + 1) = true)) →
     (((za3 P B.gv ks n ow ops).getD i zf9).o.loud = true → ((za3 P B.gv ks n ow ops).getD j zf9).o.blind = true ∨ (E.contains j = true ∧ ((za3 P B.gv ks n ow ops).getD j zf9).o.loud = false ∧ ∀ j',j' < i → ((za3 P B.gv ks n ow ops).getD j' zf9).o.loud = false)) ∧ (((za3 P B.gv ks n ow ops).getD j zf9).o.loud = true → ((za3 P B.gv ks n ow ops).getD i zf9).o.blind = true ∨ (((za3 P B.gv ks n ow ops).getD i zf9).o.loud = false ∧ F.contains (i,j + 1) = true)) := fun i j _ _ h => by
    rcases h with ⟨h1,h2⟩ | h | h | h | h
    ·exact ⟨fun e => (by rw [h1] at e; cases e),fun e => (by rw [h2] at e; cases e)⟩
    ·exact ⟨fun e => (by rw [zE4 h] at e; cases e),fun _ => .inl h⟩
    ·exact ⟨fun _ => .inl h,fun e => (by rw [zE4 h] at e; cases e)⟩
    ·exact ⟨fun _ => .inr h,fun e => (by rw [h.2.1] at e; cases e)⟩
    ·exact ⟨fun e => (by rw [h.1] at e; cases e),fun _ => .inr h⟩
   have hHk : (ze0 P B.gv ks n ow ops o).o.blind = false → (∀ i,k < i → i < ops.size → MI.loudAt (za3 P B.gv ks n ow ops) i = true → listed.getD i false = false) → Hat (za3 P B.gv ks n ow ops) hs (fun i => listed.getD i false) ops.size = Hat (za3 P B.gv ks n ow ops) hs (fun i => listed.getD i false) k := fun hnbl hno => by
    have := yj3 (mis := za3 P B.gv ks n ow ops) (hs := hs) (L := fun i => listed.getD i false) (k := k) (ops.size - k) (fun i h1 h2 h3 => by
     by_cases hik : i = k
     ·subst hik; exact hun'
     ·exact hno i (by omega) (by omega) h3)
    rw [show k + (ops.size - k) = ops.size by omega] at this
    exact this
   have loud2 : ∀ i j,i < j → j < ops.size → MI.loudAt (za3 P B.gv ks n ow ops) i = true → MI.loudAt (za3 P B.gv ks n ow ops) j = true → ((ancs ops.toList []).getD j []).contains i = true := fun i j hij hj hli hlj => by
    rcases (chk j hj).2 i hij with h4 | ⟨_,h4⟩
    ·exact h4
    ·exfalso
     have hli' : ((za3 P B.gv ks n ow ops).getD i zf9).o.loud = true := hli
     rcases (apart2 i j hij hj h4).2 hlj with h5 | h5
     ·rw [zE4 h5] at hli'; cases hli'
     ·rw [h5.1] at hli'; cases hli'
   have hnone : (ze0 P B.gv ks n ow ops o).o.loud = true → ∀ i,k < i → i < ops.size → MI.loudAt (za3 P B.gv ks n ow ops) i = true → listed.getD i false = false := fun hlk i hki hi hli =>
    later i hki hi (loud2 k i hki hi (by unfold MI.loudAt; rw [hmD]; exact hlk) hli)
   have hH : (ze0 P B.gv ks n ow ops o).o.blind = false → Hat (za3 P B.gv ks n ow ops) hs (fun i => listed.getD i false) ops.size = hs k ∨ (E.contains k = true ∧ (ze0 P B.gv ks n ow ops o).o.loud = false ∧ Hat (za3 P B.gv ks n ow ops) hs (fun i => listed.getD i false) ops.size = hs 0) ∨ ((ze0 P B.gv ks n ow ops o).o.loud = false ∧ ∃ p,F.contains (k,p) = true ∧ k < p ∧ p ≤ ops.size ∧ Hat (za3 P B.gv ks n ow ops) hs (fun i => listed.getD i false) ops.size = hs p) := fun hnbl => by
    by_cases hlast : ∃ i,k < i ∧ i < ops.size ∧ MI.loudAt (za3 P B.gv ks n ow ops) i = true ∧ listed.getD i false = true
    ·
     right; right
     obtain ⟨j,hkj,hj,hlj,hdj,hmax⟩ : ∃ j,k < j ∧ j < ops.size ∧ MI.loudAt (za3 P B.gv ks n ow ops) j = true ∧ listed.getD j false = true ∧ ∀ i,j < i → i < ops.size → MI.loudAt (za3 P B.gv ks n ow ops) i = true → listed.getD i false = false := by
      have go : ∀ (m i : Nat),ops.size - i ≤ m → k < i → i < ops.size → MI.loudAt (za3 P B.gv ks n ow ops) i = true → listed.getD i false = true →
        ∃ j,k < j ∧ j < ops.size ∧ MI.loudAt (za3 P B.gv ks n ow ops) j = true ∧ listed.getD j false = true ∧ ∀ i,j < i → i < ops.size → MI.loudAt (za3 P B.gv ks n ow ops) i = true → listed.getD i false = false := by
       intro m
       induction m with
       | zero => intro i h1 _ h3; omega
       | succ m ihm =>
        intro i h1 h2 h3 h4 h5
        by_cases hmore : ∃ i',i < i' ∧ i' < ops.size ∧ MI.loudAt (za3 P B.gv ks n ow ops) i' = true ∧ listed.getD i' false = true
        ·obtain ⟨i',g1,g2,g3,g4⟩ := hmore
         exact ihm i' (by omega) (by omega) g2 g3 g4
        ·refine ⟨i,h2,h3,h4,h5,fun i' g1 g2 g3 => ?_⟩
         cases hb : listed.getD i' false with
         | false => rfl
         | true => exact absurd ⟨i',g1,g2,g3,hb⟩ hmore
      obtain ⟨i,h2,h3,h4,h5⟩ := hlast
      exact go ops.size i (by omega) h2 h3 h4 h5
     have hoj : ops[j]? = some ops[j] := by simp [hj]
     have hF2 : (ze0 P B.gv ks n ow ops o).o.loud = false ∧ F.contains (k,j + 1) = true := by
      rcases (chk j hj).2 k hkj with h4 | ⟨_,h4⟩
      ·have := waits _ hshut j _ hoj (hshut j ops[j] (by simp) hdj) k h4
       rw [hun'] at this; cases this
      ·rcases (apart2 k j hkj hj h4).2 hlj with h5 | h5
       ·rw [hmD,hnbl] at h5; cases h5
       ·rw [hmD] at h5; exact h5
     refine ⟨hF2.1,j + 1,hF2.2,by omega,by omega,?_⟩
     have e1 := yj3 (mis := za3 P B.gv ks n ow ops) (hs := hs) (L := fun i => listed.getD i false) (k := j + 1) (ops.size - (j + 1)) (fun i h1 h2 h3 => hmax i (by omega) (by omega) h3)
     rw [show j + 1 + (ops.size - (j + 1)) = ops.size by omega] at e1
     rw [e1]
     refine zQ8 (j + 1) (fun i hi h3 => ?_) (fun i hi => quiet i (by omega))
     by_cases hij : i = j
     ·subst hij; exact hdj
     ·exact waits _ hshut j _ hoj (hshut j ops[j] (by simp) hdj) i (loud2 i j (by omega) hj h3 hlj)
    rw [hHk hnbl (fun i h1 h2 h3 => by
     cases hb : listed.getD i false with
     | false => rfl
     | true => exact absurd ⟨i,h1,h2,h3,hb⟩ hlast)]
    by_cases hall : ∀ i,i < k → MI.loudAt (za3 P B.gv ks n ow ops) i = true → listed.getD i false = true
    ·exact .inl (zQ8 k hall (fun i hi => quiet i (by omega)))
    ·right
     have hex : ∃ i,i < k ∧ MI.loudAt (za3 P B.gv ks n ow ops) i = true ∧ listed.getD i false = false := by
      refine Classical.byContradiction fun hno => hall fun i hi hl => ?_
      cases hb : listed.getD i false with
      | true => rfl
      | false => exact absurd ⟨i,hi,hl,hb⟩ hno
     obtain ⟨i,hi,hil,hiu⟩ := hex
     have hcond : E.contains k = true ∧ ((za3 P B.gv ks n ow ops).getD k zf9).o.loud = false ∧ ∀ j',j' < i → ((za3 P B.gv ks n ow ops).getD j' zf9).o.loud = false := by
      rcases (chk k hkN).2 i hi with h4 | ⟨_,h4⟩
      ·have := hanc i h4; rw [hiu] at this; cases this
      ·rcases (apart2 i k hi hkN h4).1 hil with h5 | h5
       ·rw [hmD,hnbl] at h5; cases h5
       ·exact h5
     refine .inl ⟨hcond.1,by rw [← hmD]; exact hcond.2.1,yR0 k fun j hj hjl => ?_⟩
     cases hb : listed.getD j false with
     | false => rfl
     | true =>
      rcases Nat.lt_trichotomy j i with hji | hji | hji
      ·have := hcond.2.2 j hji
       have hjl' : ((za3 P B.gv ks n ow ops).getD j zf9).o.loud = true := hjl
       rw [this] at hjl'; cases hjl'
      ·subst hji; rw [hiu] at hb; cases hb
      ·have hoj : ops[j]? = some ops[j] := by simp [show j < ops.size by omega]
       have := waits _ hshut j _ hoj (hshut j ops[j] (by simp) hb) i (loud2 i j hji (by omega) hil hjl)
       rw [hiu] at this; cases this
   have hread : ∀ t ∈ (ze0 P B.gv ks n ow ops o).reads,∀ x,es k t = some x → Eat (za3 P B.gv ks n ow ops) (es 0) vs (fun i => listed.getD i false) ops.size t = some x := by
    intro t htr x hx
    have e1 := zw6 ht k x (by omega) hx
    rw [← e1]
    have e2 := yD2 (mis := za3 P B.gv ks n ow ops) (e0 := es 0) (vs := vs) (L := fun i => listed.getD i false) (t := t) (k := k) (ops.size - k) (fun i h1 h2 h3 => by
     by_cases hik : i = k
     ·subst hik; exact hun'
     ·have hoi : ops[i]? = some ops[i] := by simp [show i < ops.size by omega]
      rcases (chk i (by omega)).2 k (by omega) with h4 | ⟨h4,_⟩
      ·exact later i (by omega) (by omega) h4
      ·exfalso
       rw [hmD,hmgetD i _ hoi] at h4
       have h5 : (ze0 P B.gv ks n ow ops ops[i]).dst = some t := by simpa [MI.dstAt,hmget i _ hoi] using h3
       simp only [MI.apart,h5,Bool.and_eq_true] at h4
       have h6 := h4.2
       simp at h6
       exact h6 htr)
    rw [show k + (ops.size - k) = ops.size by omega] at e2
    rw [e2]
    refine yr2 k (fun i hi h3 => ?_)
    have hoi : ops[i]? = some ops[i] := by simp [show i < ops.size by omega]
    rcases (chk k hkN).2 i hi with h4 | ⟨h4,_⟩
    ·exact hanc i h4
    ·exfalso
     rw [hmD,hmgetD i _ hoi] at h4
     have h5 : (ze0 P B.gv ks n ow ops ops[i]).dst = some t := by simpa [MI.dstAt,hmget i _ hoi] using h3
     simp only [MI.apart,h5,Bool.and_eq_true] at h4
     have h6 := h4.1.1
     simp at h6
     exact h6 htr
   have hset : ∀ i,(listed.setIfInBounds k true).getD i false = if i = k then true else listed.getD i false := fun i => by
    by_cases hik : i = k
    ·subst hik; simp [hkl]
    ·simp [hik,Array.getElem?_setIfInBounds_ne (fun e => hik e.symm)]
   have hL' : (fun i => (listed.setIfInBounds k true).getD i false) = fun i => if i = k then true else listed.getD i false := funext hset
   have hstep : zh9 G true (ze0 P B.gv ks n ow ops o) (Eat (za3 P B.gv ks n ow ops) (es 0) vs (fun i => listed.getD i false) ops.size) (Hat (za3 P B.gv ks n ow ops) hs (fun i => listed.getD i false) ops.size) = some (vs k,Hat (za3 P B.gv ks n ow ops) hs (fun i => (listed.setIfInBounds k true).getD i false) ops.size) := by
    rw [hL']
    have h0 := zO2 hread (ht.step k _ hm)
    cases hbl : (ze0 P B.gv ks n ow ops o).o.blind with
    | true =>
     have e1 : Hat (za3 P B.gv ks n ow ops) hs (fun i => if i = k then true else listed.getD i false) ops.size = Hat (za3 P B.gv ks n ow ops) hs (fun i => listed.getD i false) ops.size := zN3 ops.size (fun i _ h3 => by
      show (if i = k then true else listed.getD i false) = listed.getD i false
      by_cases hik : i = k
      ·subst hik
       unfold MI.loudAt at h3
       rw [hmD,zE4 hbl] at h3; cases h3
      ·rw [if_neg hik])
     rw [e1]
     exact yX2 hbl h0 _
    | false =>
     have hlow : (ze0 P B.gv ks n ow ops o).o.loud = false → Hat (za3 P B.gv ks n ow ops) hs (fun i => if i = k then true else listed.getD i false) ops.size = Hat (za3 P B.gv ks n ow ops) hs (fun i => listed.getD i false) ops.size := fun hlo => zN3 ops.size (fun i _ h3 => by
      show (if i = k then true else listed.getD i false) = listed.getD i false
      by_cases hik : i = k
      ·subst hik
       unfold MI.loudAt at h3
       rw [hmD,hlo] at h3; cases h3
      ·rw [if_neg hik])
     cases hH hbl with
     | inr q =>
      rcases q with ⟨hEk,hlo,hH⟩ | ⟨hlo,p,hp1,hp2,hp3,hH⟩
      ·rw [hlow hlo,hH]
       exact zO2 hread (hE k (by simpa using hEk) _ hm)
      ·rw [hlow hlo,hH]
       exact zO2 hread (hF k p hp1 hp2 hp3 _ hm)
     | inl hH =>
      cases hlo : (ze0 P B.gv ks n ow ops o).o.loud with
      | false =>
       rw [hlow hlo,hH]
       have hq := quiet k hkN (by unfold MI.loudAt; rw [hmD]; exact hlo)
       rw [hq] at h0
       exact h0
      | true =>
       rw [hH]
       have e1 : Hat (za3 P B.gv ks n ow ops) hs (fun i => if i = k then true else listed.getD i false) ops.size = Hat (za3 P B.gv ks n ow ops) hs (fun i => if i = k then true else listed.getD i false) (k + 1) := by
        have := yj3 (mis := za3 P B.gv ks n ow ops) (hs := hs) (L := fun i => if i = k then true else listed.getD i false) (k := k + 1) (ops.size - (k + 1)) (fun i h1 h2 h3 => by
         show (if i = k then true else listed.getD i false) = false
         rw [if_neg (by omega)]
         exact hnone hlo i (by omega) (by omega) h3)
        rw [show k + 1 + (ops.size - (k + 1)) = ops.size by omega] at this
        exact this
       rw [e1,zQ8 (k + 1) (fun i hi h3 => by
        show (if i = k then true else listed.getD i false) = true
        by_cases hik : i = k
        ·rw [if_pos hik]
        ·rw [if_neg hik]
         rcases (chk k hkN).2 i (by omega) with h4 | ⟨_,h4⟩
         ·exact hanc i h4
         ·rcases (apart2 i k (by omega) hkN h4).1 h3 with h5 | h5
          ·rw [hmD,hbl] at h5; cases h5
          ·rw [hmD,hlo] at h5; cases h5.2.1) (fun i hi => quiet i (by omega))]
       exact h0
   have hnbk := hnb k o (by simpa using ho)
   obtain ⟨c1,c2,c3⟩ := zt5 hnbk
   refine zO1 hG hinv hrel ho hstep (fun u D w' k1 k2 k3 k4 => ?_)
   refine ih (listed.setIfInBounds k true) D (a.put o.dst u) w' (by simp [hsize]) (fun j oj hoj hj i hi => ?_) ?_ (hle.trans k1) (hbw.trans k4) ?_ ?_ (by rw [zL6]; exact htm) (by rw [zA3]; exact hdf)
   ·simp only [hset] at hj ⊢
    by_cases hik : i = k
    ·simp [hik]
    ·rw [if_neg hik]
     by_cases hjk : j = k
     ·subst hjk
      have : oj = o := by
       have h1 : ops[j]? = some oj := by simpa using hoj
       rw [ho] at h1; injection h1 with h1; exact h1.symm
      subst this; exact hdir i hi
     ·rw [if_neg hjk] at hj; exact hshut j oj hoj hj i hi
   ·have := zB1 (p := fun i => !listed.getD i false) (q := fun i => !(listed.setIfInBounds k true).getD i false) (fun i hi => by
     rw [hset] at hi
     split at hi
     ·cases hi
     ·exact hi) (List.mem_range.2 hkN) (by rw [hun']; rfl) (by rw [hset,if_pos rfl]; rfl)
    unfold zG7 at hcnt ⊢
    dsimp only at hcnt ⊢
    omega
   ·
    exact k2
   ·
    rw [hL']
    refine (hrel.mono k1).put k3 (fun t htd => Nat.lt_of_lt_of_le (c3 t htd) htm) (fun t x hx => ?_)
    by_cases htd : o.dst = some t
    ·left
     refine ⟨htd,?_⟩
     have e2 := yD2 (mis := za3 P B.gv ks n ow ops) (e0 := es 0) (vs := vs) (L := fun i => if i = k then true else listed.getD i false) (t := t) (k := k + 1) (ops.size - (k + 1)) (fun i h1 h2 h3 => by
      show (if i = k then true else listed.getD i false) = false
      rw [if_neg (by omega)]
      have hoi : ops[i]? = some ops[i] := by simp [show i < ops.size by omega]
      rcases (chk i (by omega)).2 k (by omega) with h4 | ⟨h4,_⟩
      ·exact later i (by omega) (by omega) h4
      ·exfalso
       rw [hmD,hmgetD i _ hoi] at h4
       have h5 : (ze0 P B.gv ks n ow ops ops[i]).dst = some t := by simpa [MI.dstAt,hmget i _ hoi] using h3
       have h7 : (ze0 P B.gv ks n ow ops o).dst = some t := by rw [c1]; exact htd
       simp [MI.apart,h5,h7] at h4)
     rw [show k + 1 + (ops.size - (k + 1)) = ops.size by omega] at e2
     rw [e2] at hx
     simp only [Eat] at hx
     rw [if_pos ⟨by simp,by simp only [MI.dstAt,hm,Option.bind_some]; rw [c1]; exact htd⟩] at hx
     injection hx with hx; exact hx.symm
    ·right
     refine ⟨htd,?_⟩
     rw [← hx]
     refine (yb9 ops.size (fun i hi h3 => ?_)).symm
     show (if i = k then true else listed.getD i false) = listed.getD i false
     rw [if_neg (fun e => htd (by subst e; simpa [MI.dstAt,hm,c1] using h3))]
theorem yO6 {ro : Option Nat} (hG : GamB P B G) {ks ow : List Nat} {n : Nat} {ops : Array Oper} {Q : Exit → Act → World → Prop} {env fr env' fr' : List (Nat × AV)} {h' : Heap} (hst : StOK ks n B C env fr h a w)
  (hok : yO7 ops.toList (za3 P B.gv ks n ow ops) = true) (hrun : run G true (za3 P B.gv ks n ow ops) (.ok env fr h) = .ok env' fr' h')
  (hQ : ∀ D a' w',C.Le D → StOK ks n B D env' fr' h' a' w' → a'.defers = a.defers → Keep B w w' → Q .normal a' w') : wpAnyIn (fR ro) 0 P .any ops Q ops.size (Array.replicate ops.size false) a { w with drawn := w.drawn + 1 } := by
 obtain ⟨es,hs,vs,ht,e1,e2,e3,e4,e5,e6⟩ := yK1 ops.toList env fr h hst.sep hrun
 have hb : Below w.heap.size w { w with drawn := w.drawn + 1 } := zQ4 w
 refine (yA8 (E := []) (F := []) (B := B) (d := a.defers) (w0 := w) (C0 := C) hG hok (fun k hk => by cases hk) (fun k p hk => by simp at hk) ht e6 (fun D a' w' k1 k2 k3 k4 k5 k6 => hQ D a' w' k1 ⟨?_,?_,e5.1,e5.2 hst.keys,k4⟩ k5 k6) ops.size _ C a _ (by simp) (fun j o _ hj => ?_) ?_ (.refl C) (zg7 hst.inv hb) ?_ ?_ hst.size rfl)
 ·rw [← e4]; simpa using k2
 ·rw [← e3]; simpa using k3
 ·simp only [getD_replicate_false] at hj; cases hj
 ·unfold zG7; exact Nat.le_trans (List.length_filter_le _ _) (by simp)
 ·have : Hat (za3 P B.gv ks n ow ops) hs (fun i => (Array.replicate ops.size false).getD i false) ops.size = hs 0 := by
   have := yj3 (mis := za3 P B.gv ks n ow ops) (hs := hs) (L := fun i => (Array.replicate ops.size false).getD i false) (k := 0) ops.size (fun i _ _ _ => getD_replicate_false _ _)
   simpa [Hat] using this
  rw [this,e2]; exact hst.inv.grow hb
 ·intro t x hx
  have : Eat (za3 P B.gv ks n ow ops) (es 0) vs (fun i => (Array.replicate ops.size false).getD i false) ops.size t = es 0 t := by
   have := yD2 (mis := za3 P B.gv ks n ow ops) (e0 := es 0) (vs := vs) (L := fun i => (Array.replicate ops.size false).getD i false) (t := t) (k := 0) ops.size (fun i _ _ _ => getD_replicate_false _ _)
   simpa [Eat] using this
  rw [this,e1] at hx
  exact hst.rel t x hx
theorem zO6 {ro : Option Nat} (hm : P.follows .mixedOrders = true) (hG : GamB P B G) {ks ow : List Nat} {n id : Nat} {ops : Array Oper} {Q : Exit → Act → World → Prop} {env fr env' fr' : List (Nat × AV)} {h' : Heap} (hst : StOK ks n B C env fr h a w)
  (hok : yO7 ops.toList (za3 P B.gv ks n ow ops) = true) (hrun : run G true (za3 P B.gv ks n ow ops) (.ok env fr h) = .ok env' fr' h')
  (hQ : ∀ D a' w',C.Le D → StOK ks n B D env' fr' h' a' w' → a'.defers = a.defers → Keep B w w' → Q .normal a' w') : (Code.region id ops true).wpIn (fR ro) 0 P Q a w :=
 wpIn_region_any hm (yO6 hG hst hok hrun hQ)
end
end Go.Proofs.YtopiadllkglamaaGreatDoor
namespace Go.Proofs.YtopiadllkglamaaGreatDoor
open Go.RowKit
abbrev ME := Bool × List Nat × MI
def yy9 (E : List Nat) (F : List (Nat × Nat)) : Nat → List MI → List ME
 | _,[] => []
 | k,m :: ms => (E.contains k,(F.filter fun q => decide (q.1 = k)).map (fun q => q.2 - k - 1),m) :: yy9 E F (k + 1) ms
abbrev Pend := List (Nat × (Heap → Prop))
def zL9 (h : Heap) : Pend → Prop
 | [] => True
 | (0,c) :: r => c h ∧ zL9 h r
 | (_ + 1,_) :: r => zL9 h r
def zt0 : Pend → Pend
 | [] => []
 | (0,_) :: r => zt0 r
 | (n + 1,c) :: r => (n,c) :: zt0 r
def zU5 (G : Gam) (m : MI) (env fr : List (Nat × AV)) (v : AV) : List Nat → Pend
 | [] => []
 | d :: r => (d,fun h => zh9 G true m (getT env fr) h = some (v,h)) :: zU5 G m env fr v r
def runP (G : Gam) (h0 : Heap) : List ME → (List (Nat × AV) → List (Nat × AV) → Heap → Prop) → Pend → List (Nat × AV) → List (Nat × AV) → Heap → Prop
 | [],Q,pd,env,fr,h => zL9 h pd ∧ Q env fr h
 | (e,ls,m) :: is,Q,pd,env,fr,h => zL9 h pd ∧ match zh9 G true m (getT env fr) h with
  | none => False
  | some (v,h') => (e = true → zh9 G true m (getT env fr) h0 = some (v,h0)) ∧ (match m.dst with
   | none => runP G h0 is Q (zU5 G m env fr v ls ++ zt0 pd) env fr h'
   | some t => if m.kept then runP G h0 is Q (zU5 G m env fr v ls ++ zt0 pd) env (upd t v fr) h' else runP G h0 is Q (zU5 G m env fr v ls ++ zt0 pd) ((t,v) :: env) fr h')
theorem zL8 {h : Heap} : ∀ {pd : Pend} {c : Heap → Prop},zL9 h pd → (0,c) ∈ pd → c h
 | [],_,_,hm => by cases hm
 | (0,c') :: r,c,hd,hm => by
  rcases List.mem_cons.1 hm with e | hm
  ·injection e with _ e; subst e; exact hd.1
  ·exact zL8 hd.2 hm
 | (n + 1,c') :: r,c,hd,hm => by
  rcases List.mem_cons.1 hm with e | hm
  ·injection e with e _; cases e
  ·exact zL8 (pd := r) hd hm
theorem zO7 : ∀ {pd : Pend} {d : Nat} {c : Heap → Prop},(d + 1,c) ∈ pd → (d,c) ∈ zt0 pd
 | [],_,_,hm => by cases hm
 | (0,c') :: r,d,c,hm => by
  rcases List.mem_cons.1 hm with e | hm
  ·injection e with e _; cases e
  ·exact zO7 (pd := r) hm
 | (n + 1,c') :: r,d,c,hm => by
  rcases List.mem_cons.1 hm with e | hm
  ·injection e with e1 e2; injection e1 with e1; subst e1 e2; simp [zt0]
  ·exact List.mem_cons_of_mem _ (zO7 hm)
theorem yv8 {G : Gam} {m : MI} {env fr : List (Nat × AV)} {v : AV} : ∀ {ls : List Nat} {d : Nat},d ∈ ls → (d,fun h => zh9 G true m (getT env fr) h = some (v,h)) ∈ zU5 G m env fr v ls
 | [],_,hm => by cases hm
 | x :: r,d,hm => by
  rcases List.mem_cons.1 hm with rfl | hm
  ·exact List.mem_cons_self
  ·exact List.mem_cons_of_mem _ (yv8 hm)
section
variable {P : Program} {B : Base} {C D : Cx} {h : Heap} {w w' : World} {G : Gam} {a : Act}
theorem ys4 {ks ow : List Nat} {n : Nat} {ops : Array Oper} {E : List Nat} {F : List (Nat × Nat)} {h0 : Heap} {Q : List (Nat × AV) → List (Nat × AV) → Heap → Prop} : ∀ (os : List Oper) (k0 : Nat) (pd : Pend) (env fr : List (Nat × AV)) (h : Heap),Sep ks env →
  runP G h0 (yy9 E F k0 (os.map (ze0 P B.gv ks n ow ops))) Q pd env fr h →
  ∃ es hs vs env' fr' h',Q env' fr' h' ∧ Trace G (os.map (ze0 P B.gv ks n ow ops)) es hs vs ∧ es 0 = getT env fr ∧ hs 0 = h ∧ es os.length = getT env' fr' ∧ hs os.length = h' ∧ (Sep ks env' ∧ (Keys ks fr → Keys ks fr')) ∧
   (∀ (k : Nat) o,os[k]? = some o → ze0 P B.gv ks n ow ops o ≠ zf9) ∧ (∀ (k : Nat) m,E.contains (k0 + k) = true → (os.map (ze0 P B.gv ks n ow ops))[k]? = some m → zh9 G true m (es k) h0 = some (vs k,h0)) ∧
   (∀ d c,(d,c) ∈ pd → d ≤ os.length → c (hs d)) ∧ (∀ (k p : Nat) m,F.contains (k0 + k,k0 + p) = true → k < p → p ≤ os.length → (os.map (ze0 P B.gv ks n ow ops))[k]? = some m → zh9 G true m (es k) (hs p) = some (vs k,hs p))
 | [],k0,pd,env,fr,h,hsep,hq =>
  ⟨fun _ => getT env fr,fun _ => h,fun _ => .junk,env,fr,h,hq.2,⟨fun k m hm => by simp at hm,fun k m hm => by simp at hm⟩,rfl,rfl,rfl,rfl,⟨hsep,id⟩,fun k o hk => by simp at hk,fun k m _ hm => by simp at hm,fun d c hm hd => (by
   have : d = 0 := by simpa using hd
   subst this; exact zL8 hq.1 hm),fun k p m _ _ _ hm => by simp at hm⟩
 | o :: os,k0,pd,env,fr,h,hsep,hq => by
  simp only [List.map_cons,yy9,runP] at hq
  obtain ⟨hdue,hq⟩ := hq
  cases hs : zh9 G true (ze0 P B.gv ks n ow ops o) (getT env fr) h with
  | none => simp only [hs] at hq
  | some vh =>
   obtain ⟨v,h1⟩ := vh
   simp only [hs] at hq
   obtain ⟨hearly,hq⟩ := hq
   have hne : ze0 P B.gv ks n ow ops o ≠ zf9 := fun e1 => by rw [e1,zr3] at hs; cases hs
   obtain ⟨c1,c2,c3⟩ := zt5 hne
   obtain ⟨env1,fr1,hb,hq1⟩ : ∃ env1 fr1,zs3 (ze0 P B.gv ks n ow ops o).dst (ze0 P B.gv ks n ow ops o).kept env fr (some (v,h1)) = .ok env1 fr1 h1 ∧ runP G h0 (yy9 E F (k0 + 1) (os.map (ze0 P B.gv ks n ow ops))) Q (zU5 G (ze0 P B.gv ks n ow ops o) env fr v ((F.filter fun q => decide (q.1 = k0)).map (fun q => q.2 - k0 - 1)) ++ zt0 pd) env1 fr1 h1 := by
    cases hd : (ze0 P B.gv ks n ow ops o).dst with
    | none => simp only [hd] at hq; exact ⟨env,fr,rfl,hq⟩
    | some t =>
     simp only [hd] at hq
     cases hk : (ze0 P B.gv ks n ow ops o).kept with
     | true => simp only [hk,if_true] at hq; exact ⟨env,upd t v fr,by simp [zs3],hq⟩
     | false => simp only [hk,Bool.false_eq_true,if_false] at hq; exact ⟨(t,v) :: env,fr,by simp [zs3],hq⟩
   obtain ⟨_,hsep1,hk1,hget⟩ := zV5 hsep (by rw [c2,c1]) hb
   obtain ⟨es,hs',vs,env',fr',h',q0,ht,e1,e2,e3,e4,e5,e6,e7,e8,e9⟩ := ys4 os (k0 + 1) _ env1 fr1 h1 hsep1 hq1
   refine ⟨fun k => match k with | 0 => getT env fr | k + 1 => es k,fun k => match k with | 0 => h | k + 1 => hs' k,fun k => match k with | 0 => v | k + 1 => vs k,env',fr',h',q0,⟨fun k m hm => ?_,fun k m hm t x hx => ?_⟩,rfl,rfl,e3,e4,⟨e5.1,fun hk => e5.2 (hk1 hk)⟩,fun k o' hk => ?_,fun k m hc hm => ?_,fun d c hm hd => ?_,fun k p m hc hkp hp hm => ?_⟩
   ·cases k with
    | zero => simp at hm; subst hm; show _ = some (v,hs' 0); rw [e2]; exact hs
    | succ k => exact ht.step k m (by simpa using hm)
   ·cases k with
    | zero => simp at hm; subst hm; have hx' : es 0 t = some x := hx; rw [e1] at hx'; exact hget t x hx'
    | succ k => exact ht.put k m (by simpa using hm) t x hx
   ·cases k with
    | zero => simp at hk; subst hk; exact hne
    | succ k => exact e6 k o' (by simpa using hk)
   ·cases k with
    | zero => simp at hm; subst hm; exact hearly hc
    | succ k => exact e7 k m (by rw [show k0 + 1 + k = k0 + (k + 1) by omega]; exact hc) (by simpa using hm)
   ·cases d with
    | zero => exact zL8 hdue hm
    | succ d => exact e8 d c (List.mem_append_right _ (zO7 hm)) (by simpa using hd)
   ·cases p with
    | zero => omega
    | succ p =>
     cases k with
     | zero =>
      simp at hm; subst hm
      have hc' : (k0,k0 + (p + 1)) ∈ F := by simpa using hc
      exact e8 p _ (List.mem_append_left _ (yv8 (List.mem_map.2 ⟨(k0,k0 + (p + 1)),List.mem_filter.2 ⟨hc',by simp⟩,by simp⟩))) (by simpa using hp)
     | succ k => exact e9 k p m (by rw [show k0 + 1 + k = k0 + (k + 1) by omega,show k0 + 1 + p = k0 + (p + 1) by omega]; exact hc) (by omega) (by simpa using hp) (by simpa using hm)
theorem yz2 {ro : Option Nat} (hG : GamB P B G) {ks ow : List Nat} {n : Nat} {E : List Nat} {F : List (Nat × Nat)} {ops : Array Oper} {Q : Exit → Act → World → Prop} {K : List (Nat × AV) → List (Nat × AV) → Heap → Prop} {env fr : List (Nat × AV)} (hst : StOK ks n B C env fr h a w)
  (hok : zK0 E F ops.toList (za3 P B.gv ks n ow ops) = true) (hrun : runP G h (yy9 E F 0 (za3 P B.gv ks n ow ops)) K [] env fr h)
  (hQ : ∀ env' fr' h' D a' w',K env' fr' h' → C.Le D → StOK ks n B D env' fr' h' a' w' → a'.defers = a.defers → Keep B w w' → Q .normal a' w') : wpAnyIn (fR ro) 0 P .any ops Q ops.size (Array.replicate ops.size false) a { w with drawn := w.drawn + 1 } := by
 obtain ⟨es,hs,vs,env',fr',h',q0,ht,e1,e2,e3,e4,e5,e6,e7,e8,e9⟩ := ys4 (E := E) (F := F) (h0 := h) ops.toList 0 [] env fr h hst.sep hrun
 have hb : Below w.heap.size w { w with drawn := w.drawn + 1 } := zQ4 w
 refine (yA8 (E := E) (F := F) (B := B) (d := a.defers) (w0 := w) (C0 := C) hG hok (fun k hk m hmk => by rw [e2]; exact e7 k m (by simpa using hk) hmk) (fun k p hc hkp hp m hmk => e9 k p m (by simpa using hc) hkp (by simpa using hp) hmk) ht e6 (fun D a' w' k1 k2 k3 k4 k5 k6 => hQ env' fr' h' D a' w' q0 k1 ⟨?_,?_,e5.1,e5.2 hst.keys,k4⟩ k5 k6) ops.size _ C a _ (by simp) (fun j o _ hj => ?_) ?_ (.refl C) (zg7 hst.inv hb) ?_ ?_ hst.size rfl)
 ·rw [← e4]; simpa using k2
 ·rw [← e3]; simpa using k3
 ·simp only [getD_replicate_false] at hj; cases hj
 ·unfold zG7; exact Nat.le_trans (List.length_filter_le _ _) (by simp)
 ·have : Hat (za3 P B.gv ks n ow ops) hs (fun i => (Array.replicate ops.size false).getD i false) ops.size = hs 0 := by
   have := yj3 (mis := za3 P B.gv ks n ow ops) (hs := hs) (L := fun i => (Array.replicate ops.size false).getD i false) (k := 0) ops.size (fun i _ _ _ => getD_replicate_false _ _)
   simpa [Hat] using this
  rw [this,e2]; exact hst.inv.grow hb
 ·intro t x hx
  have : Eat (za3 P B.gv ks n ow ops) (es 0) vs (fun i => (Array.replicate ops.size false).getD i false) ops.size t = es 0 t := by
   have := yD2 (mis := za3 P B.gv ks n ow ops) (e0 := es 0) (vs := vs) (L := fun i => (Array.replicate ops.size false).getD i false) (t := t) (k := 0) ops.size (fun i _ _ _ => getD_replicate_false _ _)
   simpa [Eat] using this
  rw [this,e1] at hx
  exact hst.rel t x hx
theorem zL5 {ro : Option Nat} (hm : P.follows .mixedOrders = true) (hG : GamB P B G) {ks ow : List Nat} {n id : Nat} {E : List Nat} {F : List (Nat × Nat)} {ops : Array Oper} {Q : Exit → Act → World → Prop} {K : List (Nat × AV) → List (Nat × AV) → Heap → Prop} {env fr : List (Nat × AV)} (hst : StOK ks n B C env fr h a w)
  (hok : zK0 E F ops.toList (za3 P B.gv ks n ow ops) = true) (hrun : runP G h (yy9 E F 0 (za3 P B.gv ks n ow ops)) K [] env fr h)
  (hQ : ∀ env' fr' h' D a' w',K env' fr' h' → C.Le D → StOK ks n B D env' fr' h' a' w' → a'.defers = a.defers → Keep B w w' → Q .normal a' w') : (Code.region id ops true).wpIn (fR ro) 0 P Q a w :=
 wpIn_region_any hm (yz2 hG hst hok hrun hQ)
end
end Go.Proofs.YtopiadllkglamaaGreatDoor
namespace Go.Proofs.YtopiadllkglamaaGreatDoor
open Go Go.RowKit
section
variable {F : Fence} {n : Nat} {P : Program} {Q : Exit → Act → World → Prop} {a : Act} {w : World} {b : Frame} {k : List Item} {cs : List Frame}
theorem zq1 {c : Code} : step P (lone (b.atR a (.code (.scope c) :: k)) cs w) = .next (lone (b.atR a (.code c :: .inScope c :: k)) cs w) :=
 step_lone_go (by simp [stepG,stepG.exec,Frame.atR])
theorem yk2 {c : Code} : step P (lone (b.atR a (.inScope c :: k)) cs w) = .next (lone (b.atR a k) cs w) :=
 step_lone_go (by simp [stepG,stepG.exec,Frame.atR])
theorem yS0 {c : Code} (h : c.wpIn F n P (Exit.noGoto Q) a w) : (Code.scope c).wpIn F n P Q a w := by
 intro b k cs hro hb hr
 have h0 : (lone (b.atR a (.code (.scope c) :: k)) cs w).fenced P F := fenced_calm hb hr rfl
 obtain ⟨e,a₁,w₁,hq,harr⟩ := h b (.inScope c :: k) cs hro hb hr
 cases e with
 | normal => exact ⟨.normal,a₁,w₁,hq,.head h0 zq1 (StepsIn.trans harr (.one (fenced_calm hb hr rfl) yk2))⟩
 | exit id =>
  have hx : exitTo id (.inScope c :: k) = exitTo id k := by simp [exitTo]
  exact ⟨.exit id,a₁,w₁,hq,fun k' hk => .head h0 zq1 (harr.1 k' (by rw [hx]; exact hk)),
   fun hr' hk => let ⟨k₁,h1,h2⟩ := harr.2 hr' (by rw [hx]; exact hk); ⟨k₁,h1,.head h0 zq1 h2⟩⟩
 | goto l => exact hq.elim
 | ret => exact ⟨_,a₁,w₁,hq,.of_steps (.one h0 zq1) harr⟩
 | panic ch => exact ⟨_,a₁,w₁,hq,.of_steps (.one h0 zq1) harr⟩
 | outgrown => exact ⟨_,a₁,w₁,hq,.of_steps (.one h0 zq1) harr⟩
end
end Go.Proofs.YtopiadllkglamaaGreatDoor
namespace Go.Proofs.YtopiadllkglamaaGreatDoor
open Go.RowKit
theorem gd {listed : Array Bool} {i : Nat} (hi : i < listed.size) : listed.getD i true = listed.getD i false := by simp [hi]
def renO (ρ : Nat → Nat) (more : List Nat) (o : Oper) : Oper :=
 { o with after := ((o.after.toList.map fun (e : Edge) => ({ e with on := ρ e.on } : Edge)) ++ more.map fun j => (⟨ρ j,.data⟩ : Edge)).toArray,guard := o.guard.map fun g => (ρ g.1,g.2) }
def yB0 (σ : List Nat) (i : Nat) : List Nat := if σ.contains i then σ.takeWhile (fun j => j != i) else []
def zu2 (ops : Array Oper) (ord σ : List Nat) : Array Oper := (ord.map fun i => renO ord.idxOf (yB0 σ i) (ops.getD i default)).toArray
def xL7 (n : Nat) (ord : List Nat) : Bool := decide (ord.length = n) && ord.all (fun i => decide (i < n)) && (List.range n).all fun i => ord.contains i && ord.idxOf (ord.getD i 0) == i
section
variable {P : Program} {F : Fence} {n : Nat} {ops : Array Oper} {Q : Exit → Act → World → Prop} {ord σ : List Nat}
structure Ord (N : Nat) (ord : List Nat) : Prop where
 len : ord.length = N
 lt : ∀ i ∈ ord,i < N
 mem : ∀ i,i < N → i ∈ ord
 inv : ∀ k,k < N → ord.idxOf (ord.getD k 0) = k
theorem xX8 {N : Nat} (h : xL7 N ord = true) : Ord N ord := by
 unfold xL7 at h
 simp only [Bool.and_eq_true,decide_eq_true_eq,List.all_eq_true,List.mem_range,beq_iff_eq] at h
 exact ⟨h.1.1,h.1.2,fun i hi => by simpa using (h.2 i hi).1,fun k hk => (h.2 k hk).2⟩
theorem Ord.at {N : Nat} (h : Ord N ord) {i : Nat} (hi : i < N) : ord[ord.idxOf i]? = some i := by
 have h1 : ord.idxOf i < ord.length := List.idxOf_lt_length_of_mem (h.mem i hi)
 rw [List.getElem?_eq_getElem h1,List.getElem_idxOf]
theorem Ord.pos_lt {N : Nat} (h : Ord N ord) {i : Nat} (hi : i < N) : ord.idxOf i < N := by
 have := List.idxOf_lt_length_of_mem (h.mem i hi)
 rw [h.len] at this; exact this
theorem Ord.pos_ge {N : Nat} (h : Ord N ord) {i : Nat} (hi : N ≤ i) : N ≤ ord.idxOf i := by
 rcases Nat.lt_or_ge (ord.idxOf i) N with h1 | h1
 ·have h2 : ord.idxOf i < ord.length := by rw [h.len]; exact h1
  have : ord[ord.idxOf i] = i := List.getElem_idxOf h2
  have := h.lt i (by rw [← this]; exact List.getElem_mem h2)
  omega
 ·exact h1
theorem Ord.inj {N : Nat} (h : Ord N ord) {i j : Nat} (hi : i < N) (hj : j < N) (e : ord.idxOf i = ord.idxOf j) : i = j := by
 have h1 := h.at hi
 rw [e,h.at hj] at h1
 injection h1 with h1; exact h1.symm
theorem yl7 : (zu2 ops ord σ).size = ord.length := by simp [zu2]
theorem yl8 (h : Ord ops.size ord) {i : Nat} {o : Oper} (ho : ops[i]? = some o) : (zu2 ops ord σ)[ord.idxOf i]? = some (renO ord.idxOf (yB0 σ i) o) := by
 have hi : i < ops.size := (Array.getElem?_eq_some_iff.1 ho).1
 have h1 := h.at hi
 simp only [zu2,List.getElem?_toArray,List.getElem?_map,h1,Option.map_some]
 rw [show ops.getD i default = o by rw [Array.getD_eq_getD_getElem?,ho]; rfl]
theorem yF0 (h : Ord ops.size ord) (tmps : Array Value) (j : Nat) : yielded (zu2 ops ord σ) tmps (ord.idxOf j) = yielded ops tmps j := by
 unfold yielded
 cases ho : ops[j]? with
 | some o => rw [yl8 h ho]; rfl
 | none =>
  have hj : ops.size ≤ j := by simpa using ho
  have : (zu2 ops ord σ)[ord.idxOf j]? = none := by
   rw [Array.getElem?_eq_none]; rw [yl7,h.len]; exact h.pos_ge hj
  rw [this]
theorem xX2 (h : Ord ops.size ord) {i : Nat} (hi : i < ops.size) {K : Act → World → Prop} {a : Act} {w : World} (hk : wpOpIn F n P (zu2 ops ord σ) Q (ord.idxOf i) K a w) : wpOpIn F n P ops Q i K a w := by
 have ho : ops[i]? = some ops[i] := by simp [hi]
 unfold wpOpIn at hk ⊢
 rw [yl8 h ho] at hk
 rw [ho]
 dsimp only at hk ⊢
 have hw : Region.wanted (renO ord.idxOf (yB0 σ i) ops[i]) (yielded (zu2 ops ord σ) a.tmps) = Region.wanted ops[i] (yielded ops a.tmps) := by
  unfold Region.wanted renO
  cases ops[i].guard with
  | none => rfl
  | some g => obtain ⟨j,b⟩ := g; simp only [Option.map_some,yF0 h]
 rw [hw] at hk
 exact hk
abbrev yc6 (ops : Array Oper) (fuel t : Nat) (listed : Array Bool) : List Nat := Region.linearise.go .any ops fuel t listed []
theorem yf8 {fuel t : Nat} {listed : Array Bool} : (Region.ready .any ops listed = [] ∧ yc6 ops (fuel + 1) t listed = []) ∨
  ∃ i t',i ∈ Region.ready .any ops listed ∧ yc6 ops (fuel + 1) t listed = i :: yc6 ops fuel t' (listed.setIfInBounds i true) := by
 unfold yc6
 simp only [Region.linearise.go]
 change (_ ∧ (match (Region.ready .any ops listed)[t % (Region.ready .any ops listed).length]? with
   | some i => Region.linearise.go .any ops fuel (t / (Region.ready .any ops listed).length) (listed.setIfInBounds i true) [i]
   | none => [].reverse) = []) ∨ ∃ i t',i ∈ Region.ready .any ops listed ∧ (match (Region.ready .any ops listed)[t % (Region.ready .any ops listed).length]? with
   | some i => Region.linearise.go .any ops fuel (t / (Region.ready .any ops listed).length) (listed.setIfInBounds i true) [i]
   | none => [].reverse) = i :: yc6 ops fuel t' (listed.setIfInBounds i true)
 cases hi : (Region.ready .any ops listed)[t % (Region.ready .any ops listed).length]? with
 | none =>
  left
  refine ⟨?_,rfl⟩
  cases hr : Region.ready .any ops listed with
  | nil => rfl
  | cons x xs =>
   rw [hr] at hi
   have hlt : t % (x :: xs).length < (x :: xs).length := Nat.mod_lt _ (by simp)
   simp at hi
   simp at hlt
   omega
 | some i =>
  right
  refine ⟨i,t / (Region.ready .any ops listed).length,List.mem_of_getElem? hi,?_⟩
  dsimp only
  rw [linearise_go_acc]; rfl
theorem zX0 {listed : Array Bool} {i j : Nat} (hi : i < listed.size) : (listed.setIfInBounds i true).getD j false = if j = i then true else listed.getD j false := by
 by_cases e : j = i
 ·subst e; rw [if_pos rfl]; simp [hi]
 ·rw [if_neg e]; exact getD_set_ne false (fun e' => e e'.symm)
theorem xQ7 {lou : Nat → Bool} (h : Ord ops.size ord) : ∀ (fuel t : Nat) (listed listed' : Array Bool) (dn : List Nat) (a : Act) (w : World),listed.size = ops.size → listed'.size = ops.size →
  (∀ i,i < ops.size → listed'.getD (ord.idxOf i) false = listed.getD i false) → (∀ i ∈ dn,listed.getD i false = true) → σ = dn ++ (yc6 ops fuel t listed).filter lou →
  wpAnyIn F n P .any (zu2 ops ord σ) Q fuel listed' a w → wpOpsIn F n P ops Q (yc6 ops fuel t listed) a w := by
 intro fuel
 induction fuel with
 | zero =>
  intro t listed listed' dn a w _ _ _ _ _ hw
  simpa [yc6,Region.linearise.go,wpOpsIn] using hw.2
 | succ fuel ih =>
  intro t listed listed' dn a w hs hs' hc hdn hσ hw
  rcases yf8 (ops := ops) (fuel := fuel) (t := t) (listed := listed) with ⟨hr,e⟩ | ⟨i,t',hi,e⟩
  ·rw [e]
   show Q .normal a w
   refine hw.1 ?_
   cases hr' : Region.ready .any (zu2 ops ord σ) listed' with
   | nil => rfl
   | cons k r =>
    have hk : k ∈ Region.ready .any (zu2 ops ord σ) listed' := by rw [hr']; simp
    obtain ⟨k1,o',k2,k3⟩ := mem_ready.1 hk
    have hkN : k < ops.size := by have := (Array.getElem?_eq_some_iff.1 k2).1; rw [yl7,h.len] at this; exact this
    have hik : ord.getD k 0 < ops.size := by
     refine h.lt _ ?_
     rw [List.getD_eq_getElem?_getD,List.getElem?_eq_getElem (by rw [h.len]; exact hkN)]
     exact List.getElem_mem _
    have hinv := h.inv k hkN
    have ho : ops[ord.getD k 0]? = some ops[ord.getD k 0] := by simp
    have hg := yl8 (σ := σ) h ho
    rw [hinv,k2] at hg
    injection hg with hg
    have hcu := hc _ hik
    rw [hinv] at hcu
    have : ord.getD k 0 ∈ Region.ready .any ops listed := mem_ready.2 ⟨by
     have hl : k < listed'.size := by omega
     have hl2 : ord.getD k 0 < listed.size := by omega
     rw [gd hl] at k1
     rw [k1] at hcu
     rw [gd hl2]; exact hcu.symm,_,ho,fun e he hb => by
     have h1 := k3 { e with on := ord.idxOf e.on } (by
      rw [hg]
      simp only [renO]
      rw [List.mem_toArray]
      exact List.mem_append_left _ (List.mem_map.2 ⟨e,by simpa using he,rfl⟩)) hb
     dsimp only at h1
     rcases Nat.lt_or_ge e.on ops.size with h2 | h2
     ·rw [hc _ h2] at h1; exact h1
     ·have h3 := h.pos_ge h2
      rw [show listed'.getD (ord.idxOf e.on) false = false by
       have : listed'.size ≤ ord.idxOf e.on := by omega
       simp [Array.getD,Nat.not_lt.2 this]] at h1
      cases h1⟩
    rw [hr] at this; cases this
  ·rw [e,wpOpsIn_cons]
   obtain ⟨k1,o,k2,k3⟩ := mem_ready.1 hi
   have hiN : i < ops.size := (Array.getElem?_eq_some_iff.1 k2).1
   have hil : i < listed.size := by omega
   have hun : listed.getD i false = false := by simp [hil] at k1 ⊢; exact k1
   have hpl : ord.idxOf i < listed'.size := by rw [hs']; exact h.pos_lt hiN
   have hahead : ∀ j ∈ yB0 σ i,listed.getD j false = true := fun j hj => by
    unfold yB0 at hj
    split at hj
    ·rename_i hmem
     have hlou : lou i = true := by
      have : i ∈ σ := by simpa using hmem
      rw [hσ] at this
      rcases List.mem_append.1 this with h1 | h1
      ·rw [hdn i h1] at hun; cases hun
      ·exact (List.mem_filter.1 h1).2
     have he : σ = dn ++ i :: (yc6 ops fuel t' (listed.setIfInBounds i true)).filter lou := by rw [hσ,e]; simp [hlou]
     rw [he] at hj
     have hnd : ∀ x ∈ dn,(x != i) = true := fun x hx => by
      have : x ≠ i := fun e => by subst e; rw [hdn x hx] at hun; cases hun
      simpa using this
     rw [List.takeWhile_append_of_pos hnd] at hj
     simp at hj
     exact hdn j hj
    ·cases hj
   have hrd : ord.idxOf i ∈ Region.ready .any (zu2 ops ord σ) listed' := mem_ready.2 ⟨by
     have hcu := hc i hiN
     rw [hun] at hcu
     simp [hpl] at hcu ⊢; exact hcu,_,yl8 h k2,fun e he hb => by
     simp only [renO,List.mem_toArray] at he
     rcases List.mem_append.1 he with he | he
     ·obtain ⟨e0,he0,rfl⟩ := List.mem_map.1 he
      have h1 := k3 e0 (by simpa using he0) hb
      dsimp only
      rcases Nat.lt_or_ge e0.on ops.size with h2 | h2
      ·rw [hc _ h2]; exact h1
      ·rw [show listed.getD e0.on false = false by simp [Array.getD,show ¬ e0.on < listed.size by omega]] at h1; cases h1
     ·obtain ⟨j,hj,rfl⟩ := List.mem_map.1 he
      have h1 := hahead j hj
      dsimp only
      rcases Nat.lt_or_ge j ops.size with h2 | h2
      ·rw [hc _ h2]; exact h1
      ·rw [show listed.getD j false = false by simp [Array.getD,show ¬ j < listed.size by omega]] at h1; cases h1⟩
   refine wpOpIn_mono (fun a' w' hw' => ?_) (xX2 h hiN (hw.2 _ hrd))
   refine ih t' (listed.setIfInBounds i true) (listed'.setIfInBounds (ord.idxOf i) true) (if lou i then dn ++ [i] else dn) a' w' (by simpa using hs) (by simpa using hs') (fun j hj => ?_) (fun j hj => ?_) ?_ hw'
   ·rw [zX0 hpl,zX0 hil]
    by_cases ej : j = i
    ·subst ej; simp
    ·rw [if_neg ej,if_neg (fun e => ej (h.inj hj hiN e))]; exact hc j hj
   ·rw [zX0 hil]
    split
    ·rfl
    ·rename_i hne
     split at hj
     ·rcases List.mem_append.1 hj with h1 | h1
      ·exact hdn j h1
      ·exact absurd (List.mem_singleton.1 h1) hne
     ·exact hdn j hj
   ·rw [hσ,e]
    cases hl : lou i <;> simp [hl]
end
def gens (as : List (List Nat)) : Nat → List Nat → List (List Nat)
 | 0,_ => [[]]
 | m + 1,R => if R.isEmpty then [[]] else R.flatMap fun x => if R.all fun y => !(as.getD x []).contains y then (gens as m (R.filter fun y => y != x)).map (x :: ·) else []
theorem yO1 {as : List (List Nat)} : ∀ m,[] ∈ gens as m []
 | 0 => by simp [gens]
 | m + 1 => by simp [gens]
theorem xM2 {ops : Array Oper} {lou : Nat → Bool} {all : List Nat} (hall : ∀ i,i < ops.size → lou i = true → i ∈ all) (hlou : ∀ i ∈ all,i < ops.size ∧ lou i = true) (htop : ∀ (k : Nat) o,ops[k]? = some o → ∀ i ∈ zo7 o,i < k) :
  ∀ (fuel t : Nat) (listed : Array Bool) (m : Nat),listed.size = ops.size → Shut ops.toList (fun i => listed.getD i false) → zG7 ops.size (fun i => listed.getD i false) ≤ fuel → (all.filter fun i => !listed.getD i false).length ≤ m →
   (yc6 ops fuel t listed).filter lou ∈ gens (ancs ops.toList []) m (all.filter fun i => !listed.getD i false) := by
 intro fuel
 induction fuel with
 | zero =>
  intro t listed m hs _ hu _
  have hR : all.filter (fun i => !listed.getD i false) = [] := by
   rw [List.filter_eq_nil_iff]
   intro i hi
   cases hb : listed.getD i false with
   | true => simp
   | false =>
    have : i ∈ (List.range ops.size).filter fun i => !listed.getD i false := List.mem_filter.2 ⟨List.mem_range.2 (hlou i hi).1,by rw [hb]; rfl⟩
    have := List.length_pos_of_mem this
    unfold zG7 at hu; dsimp only at hu; omega
  rw [hR]
  exact yO1 m
 | succ fuel ih =>
  intro t listed m hs hsh hu hm
  rcases yf8 (ops := ops) (fuel := fuel) (t := t) (listed := listed) with ⟨hr,e⟩ | ⟨i,t',hi,e⟩
  ·have hd : ∀ i,i < ops.size → listed.getD i false = true := by
    intro i
    induction i using Nat.strongRecOn with
    | _ i ihi =>
     intro hi
     cases hb : listed.getD i false with
     | true => rfl
     | false =>
      have ho : ops[i]? = some ops[i] := by simp [hi]
      have : i ∈ Region.ready .any ops listed := mem_ready.2 ⟨by
       have hi' : i < listed.size := by omega
       simp [hi'] at hb ⊢; exact hb,ops[i],ho,fun e he hb => by
       have hlt := htop i _ ho e.on (List.mem_filterMap.2 ⟨e,by simpa using he,by rw [if_pos hb]⟩)
       exact ihi e.on hlt (by omega)⟩
      rw [hr] at this; cases this
   have hR : all.filter (fun i => !listed.getD i false) = [] := by
    rw [List.filter_eq_nil_iff]
    intro i hi
    rw [hd i (hlou i hi).1]; simp
   rw [e,hR]
   exact yO1 m
  ·obtain ⟨k1,o,k2,k3⟩ := mem_ready.1 hi
   have hiN : i < ops.size := (Array.getElem?_eq_some_iff.1 k2).1
   have hil : i < listed.size := by omega
   have hun : listed.getD i false = false := by simp [hil] at k1 ⊢; exact k1
   have hdir : ∀ j ∈ zo7 o,listed.getD j false = true := fun j hj => by
    obtain ⟨e,he,h1⟩ := List.mem_filterMap.1 hj
    split at h1
    ·rename_i hb; injection h1 with h1; subst h1; exact k3 e (by simpa using he) hb
    ·cases h1
   have hset : (fun j => (listed.setIfInBounds i true).getD j false) = fun j => if j = i then true else listed.getD j false := funext fun j => zX0 hil
   have hsh' : Shut ops.toList (fun j => (listed.setIfInBounds i true).getD j false) := by
    rw [hset]
    intro j oj hoj hj x hx
    dsimp only at hj ⊢
    by_cases ej : j = i
    ·subst ej
     have : oj = o := by
      have h1 : ops[j]? = some oj := by simpa using hoj
      rw [k2] at h1; injection h1 with h1; exact h1.symm
     subst this
     split
     ·rfl
     ·exact hdir x hx
    ·rw [if_neg ej] at hj
     split
     ·rfl
     ·exact hsh j oj hoj hj x hx
   have hu' : zG7 ops.size (fun j => (listed.setIfInBounds i true).getD j false) ≤ fuel := by
    rw [hset]
    have := zB1 (l := List.range ops.size) (p := fun j => !listed.getD j false) (q := fun j => !(if j = i then true else listed.getD j false)) (k := i) (fun x hx => by
     by_cases e : x = i
     ·rw [if_pos e] at hx; cases hx
     ·rw [if_neg e] at hx; exact hx) (List.mem_range.2 hiN) (by rw [hun]; rfl) (by rw [if_pos rfl]; rfl)
    unfold zG7 at hu ⊢
    dsimp only at hu ⊢
    omega
   have hR' : (all.filter fun j => !(listed.setIfInBounds i true).getD j false) = (all.filter fun j => !listed.getD j false).filter fun y => y != i := by
    rw [List.filter_filter]
    congr 1
    funext j
    rw [zX0 hil]
    by_cases ej : j = i
    ·subst ej; simp
    ·simp [ej]
   rw [e]
   cases hl : lou i with
   | false =>
    have hRe : (all.filter fun j => !(listed.setIfInBounds i true).getD j false) = all.filter fun j => !listed.getD j false := by
     rw [hR',List.filter_eq_self]
     intro j hj
     have : j ≠ i := fun e => by
      subst e
      have := (hlou j (List.mem_filter.1 hj).1).2
      rw [hl] at this; cases this
     simpa using this
    have := ih t' (listed.setIfInBounds i true) m (by simpa using hs) hsh' hu' (by rw [hRe]; exact hm)
    rw [hRe] at this
    simpa [hl] using this
   | true =>
    have hiR : i ∈ all.filter fun j => !listed.getD j false := List.mem_filter.2 ⟨hall i hiN hl,by simp [hun]⟩
    have hpos := List.length_pos_of_mem hiR
    cases m with
    | zero => omega
    | succ m =>
     have hlen : (all.filter fun j => !(listed.setIfInBounds i true).getD j false).length ≤ m := by
      rw [hR']
      have := zB1 (l := all.filter fun j => !listed.getD j false) (p := fun _ => true) (q := fun y => y != i) (k := i) (fun _ _ => rfl) hiR rfl (by simp)
      rw [List.filter_eq_self.2 (fun _ _ => rfl)] at this
      omega
     have h1 := ih t' (listed.setIfInBounds i true) m (by simpa using hs) hsh' hu' hlen
     rw [hR'] at h1
     simp only [gens]
     rw [if_neg (by intro he; rw [List.isEmpty_iff] at he; rw [he] at hiR; cases hiR)]
     refine List.mem_flatMap.2 ⟨i,hiR,?_⟩
     rw [if_pos]
     ·simp only [List.filter_cons,hl,if_true]
      exact List.mem_map.2 ⟨_,h1,rfl⟩
     ·rw [List.all_eq_true]
      intro y hy
      cases hb : (List.getD (ancs ops.toList []) i []).contains y with
      | false => rfl
      | true =>
       have := yb4 hsh ops.toList [] [] rfl rfl (fun j o _ hj => by simp at hj) i o (by simpa using k2) hdir y (by simpa using hb)
       have h2 := (List.mem_filter.1 hy).2
       rw [this] at h2; cases h2
theorem yF2 {P : Program} {F : Fence} {n id : Nat} {ops : Array Oper} {Q : Exit → Act → World → Prop} {a : Act} {w : World} (hm : P.follows .mixedOrders = true) {lou : Nat → Bool} {all : List Nat} (hall : ∀ i,i < ops.size → lou i = true → i ∈ all) (hlou : ∀ i ∈ all,i < ops.size ∧ lou i = true) (htop : ∀ (k : Nat) o,ops[k]? = some o → ∀ i ∈ zo7 o,i < k)
  (hq : ∀ σ ∈ gens (ancs ops.toList []) all.length all,∃ ord,Ord ops.size ord ∧ wpAnyIn F n P .any (zu2 ops ord σ) Q ops.size (Array.replicate ops.size false) a { w with drawn := w.drawn + 1 }) : (Code.region id ops true).wpIn F n P Q a w :=
 wpIn_region_draw fun t => by
  simp only [Region.schedule,hm,Bool.true_or,if_true]
  have hf : (all.filter fun i => !(Array.replicate ops.size false).getD i false) = all := by
   rw [List.filter_eq_self]; intro i _; rw [getD_replicate_false]; rfl
  have h1 := xM2 hall hlou htop ops.size t (Array.replicate ops.size false) all.length (by simp) (fun j o _ hj => by simp only [getD_replicate_false] at hj; cases hj) (by unfold zG7; exact Nat.le_trans (List.length_filter_le _ _) (by simp)) (by rw [hf]; exact Nat.le_refl _)
  rw [hf] at h1
  obtain ⟨ord,ho,hw⟩ := hq _ h1
  exact xQ7 (lou := lou) ho ops.size t _ _ [] a _ (by simp) (by simp) (fun i _ => by rw [getD_replicate_false,getD_replicate_false]) (by simp) (by simp) hw
end Go.Proofs.YtopiadllkglamaaGreatDoor
