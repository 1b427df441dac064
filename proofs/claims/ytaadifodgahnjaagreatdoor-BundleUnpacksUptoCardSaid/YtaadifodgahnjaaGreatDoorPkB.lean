/- Bundles: packed. Bundles: unpacked. Bundles: unpacked: the reference's. The laws BundlePacks and BundleUnpacks,walked. -/
import Derived.Test.YtaadifodgahnjaaGreatDoorPkA
import Derived.Test.YtaadifodgahnjaaGreatDoorRmV
namespace Go.Proofs.YtaadifodgahnjaaGreatDoor
open Go.RowKit Go.IntWalk
theorem dec_len20 (n : Nat) (h : n < 10 ^ 15) : (Lib.decDigits n).length ≤ 16 := dec_len 15 n h
theorem textB_len {s : Bs} (h : s.length ≤ 65536) : (textB s).length ≤ s.length + 18 := by
 unfold textB
 have := dec_len20 s.length (by omega)
 simp; omega
theorem numB_len {n : Nat} (h : n ≤ 1000) : (numB n).length ≤ 17 := by
 unfold numB
 have := dec_len20 n (by omega)
 simp; omega
theorem packF_len : ∀ {t : List Touch},(∀ f ∈ t,okFile f) → (packF t).length ≤ t.length * 70000
 | [],_ => by simp [packF]
 | f :: r,h => by
  have ih := packF_len (t := r) fun g hg => h g (by simp [hg])
  obtain ⟨h1,h2⟩ := h f (by simp)
  have a := textB_len (s := f.path) (by omega)
  have b := textB_len (s := f.dig) h2
  simp only [packF,List.length_append,List.length_cons]
  omega
theorem packF_app : ∀ (a b : List Touch),packF (a ++ b) = packF a ++ packF b
 | [],b => rfl
 | f :: r,b => by simp [packF,packF_app r b]
section
variable {G : Gam}
theorem text_call {f : FuncId} (hX : G f = some (.pure F_TextB)) {s : Bs} (h : s.length ≤ 65536) (st : Bool) (hp : Heap) : opV G st hp (.call f) (some [.str s]) = some (.tup [.str (textB s),.int .i64 0],hp) :=
 op_call hX (us := [.str s]) rfl (by simp only [F_TextB]; rw [if_neg (by omega),if_pos h]) (.inl rfl)
theorem num_call {f : FuncId} (hX : G f = some (.pure F_Number)) {n : Nat} (h : n ≤ 1000) (st : Bool) (hp : Heap) : opV G st hp (.call f) (some [.int .i64 n]) = some (.tup [.str (numB n),.int .i64 0],hp) :=
 op_call hX (us := [.int .i64 n]) rfl (by simp only [F_Number]; rw [if_pos ⟨by omega,by omega⟩]; simp) (.inl rfl)
end
theorem pack_L1 (G : Gam) (hX : G Fn.codec_Text = some (.pure F_TextB)) (t : List Touch) (hl : t.length ≤ 64) (ht : ∀ f ∈ t,okFile f) (pre : Bs) (hpre : pre.length ≤ 10000000) {ks : List MK} {Q : MPost} {x1 x2 x3 x5 x7 x8 x38 x39 x40 : AV} {b : Blk} (hb : lowB 1 b = true) (hlw : lowL 1 [x1,x2,x3,x5,x7,x8,x38,x39,x40] = true) {a0 : AV} (ha : low 1 a0 = true)
  (hk : ∀ env y,exM G .normal ks Q env [(0,a0),(1,x1),(2,x2),(3,x3),(4,.str (pre ++ packF t)),(5,x5),(7,x7),(8,x8),(11,.junk),(12,.junk),(14,.junk),(38,x38),(39,x39),(40,x40),(53,.sl (touchRows t)),(54,.int .i64 t.length),(55,.int .i64 y)] [b]) :
  ∀ (rest dn : List Touch) (i : Nat),t = dn ++ rest → dn.length = i →
  headM G [11,12,14] Mc.bundle_Pack_L1 1 (.blk 2 :: ks) Q [(0,a0),(1,x1),(2,x2),(3,x3),(4,.str (pre ++ packF dn)),(5,x5),(7,x7),(8,x8),(11,.junk),(12,.junk),(14,.junk),(38,x38),(39,x39),(40,x40),(53,.sl (touchRows t)),(54,.int .i64 t.length),(55,.int .i64 i)] [b]
 | [],dn,i,hd,hi => by
  have e : t = dn := by simpa using hd
  subst e
  have q : ltB (i : Int) (t.length : Int) = false := ltB_not.2 (by omega)
  refine head_go (Mc.bundle_Pack_L1.eq_1) ?_
  rw [vtrunc_len (n := 1) rfl]
  simp [junkAll,q]
  exact hk _ _
 | f :: rest,dn,i,hd,hi => by
  have hlt : i < t.length := by rw [hd]; simp; omega
  have hx : t[i]? = some f := by rw [hd,List.getElem?_append_right (by omega)]; simp [hi]
  have q : ltB (i : Int) (t.length : Int) = true := ltB_iff.2 (by omega)
  have hw := wrap1 (i := i) (by unfold big; omega)
  have r1 := touchRows_get hx
  have i1 : ∀ st h,opV G st h (.iadr 2) (some [.sl (touchRows t),.int .i64 i]) = some (.fptr [.str f.path,.str f.dig] 0,h) := fun st h => by
   rw [opV_quiet rfl]; simp [evalPure,iadrAV,r1]
  obtain ⟨f1,f2⟩ := ht f (List.mem_of_getElem? hx)
  have k1 := text_call (G := G) hX (s := f.path) (by omega)
  have k2 := text_call (G := G) hX (s := f.dig) f2
  have l1 := textB_len (s := f.path) (by omega)
  have l2 := textB_len (s := f.dig) f2
  have l3 := packF_len (t := dn) fun g hg => ht g (by rw [hd]; simp [hg])
  have l4 : dn.length ≤ 64 := by omega
  have s1 : (textB f.path).length + (textB f.dig).length ≤ strMax := by unfold strMax; omega
  have s2 : pre.length + (packF dn).length + ((textB f.path).length + (textB f.dig).length) ≤ strMax := by unfold strMax; omega
  have e : pre ++ packF (dn ++ [f]) = pre ++ packF dn ++ (textB f.path ++ textB f.dig) := by rw [packF_app]; simp [packF]
  have ih := pack_L1 G hX t hl ht pre hpre hb hlw ha hk rest (dn ++ [f]) (i + 1) (by rw [hd]; simp) (by simp [hi])
  rw [e] at ih
  refine head_go (Mc.bundle_Pack_L1.eq_1) ?_
  rw [vtrunc_len (n := 1) rfl]
  simp only [List.append_assoc] at ih
  simp [junkAll,q,i1,cut,mkVal,stAV,AV.cells,oneC,setAt,loadAV,k1,k2,s1,s2,hw]
  refine head_of ?_
  rw [show ([b,Blk.cells [.str f.path,.str f.dig]] : Heap) = [b] ++ [Blk.cells [.str f.path,.str f.dig]] from rfl,trunc_low (n := 1) rfl (by simp only [lowL,Bool.and_eq_true] at hlw; simp [junkAll,lowFr,low,hlw,ha]) (by show (lowB 1 b && lowH 1 []) = true; rw [hb]; rfl)]
  simpa [junkAll] using ih
def F_Pack : List AV → Option AV
 | [a] => match decBun a with
  | some b => if b.man.length ≤ 1000000 ∧ (b.pap.all fun f => decide (f.path.length < 4294967281)) = true ∧ (b.src.all fun f => decide (f.path.length < 4294967281)) = true then some (.tup [.str (packE b).1,.int .i64 (packE b).2]) else none
  | none => none
 | _ => none
theorem text_over {G : Gam} {f : FuncId} (hX : G f = some (.pure F_TextB)) {s : Bs} (h : 65536 < s.length) (h2 : s.length ≤ 1000000) (st : Bool) (hp : Heap) : opV G st hp (.call f) (some [.str s]) = some (.tup [.str [],.int .i64 10],hp) :=
 op_call hX (us := [.str s]) rfl (by simp only [F_TextB]; rw [if_neg (by omega),if_neg (by omega)]) (.inl rfl)
theorem check_call {G : Gam} {f : FuncId} (hK : G f = some (.pure F_treeCheck)) {t : List Touch} (ht : (t.all fun f => decide (f.path.length < 4294967281)) = true) (st : Bool) (hp : Heap) : opV G st hp (.call f) (some [.sl (touchRows t)]) = some (.int .i64 (treeE t),hp) :=
 op_call hK (us := [.sl (touchRows t)]) rfl (by simp only [F_treeCheck,dec_touchRows]; rw [if_pos ht]) (.inl rfl)
theorem Pack_ok {G : Gam} (hX : G Fn.codec_Text = some (.pure F_TextB)) (hN : G Fn.q81 = some (.pure F_Number)) (hK : G Fn.tree_Check = some (.pure F_treeCheck)) :
  ∀ args r,F_Pack args = some r → wpM G Mc.bundle_Pack (pureQ Rs.bundle_Pack r) [] (frInit Ks.bundle_Pack args) [] := by
 intro args r hF
 unfold F_Pack at hF
 split at hF
 ·rename_i a
  split at hF
  ·rename_i b hd
   split at hF
   ·rename_i hb
    injection hF with hF; subst hF
    obtain ⟨b1,b2,b3⟩ := hb
    obtain rfl := decBun_of hd
    obtain ⟨m,p,q⟩ := b
    simp only at b1 b2 b3
    have c1 := check_call (G := G) hK b2
    have c2 := check_call (G := G) hK b3
    rw [wpM_go]
    unfold packE
    by_cases e0 : 65536 < m.length
    ·have k0 := text_over (G := G) hX e0 b1
     rw [if_pos e0]
     simp [Mc.bundle_Pack,frInit,Ks.bundle_Pack,encBun,loadAV,cut,mkVal,k0,show eqB 10 0 = false from rfl,pureQ,Rs.bundle_Pack]
    ·have k0 := text_call (G := G) hX (s := m) (by omega)
     simp only
     rw [if_neg e0]
     by_cases e1 : treeE p = 0
     ·by_cases e2 : treeE q = 0
      ·rw [if_neg (by simp [e1,e2])]
       rw [e1] at c1; rw [e2] at c2
       obtain ⟨p1,p2⟩ := treeE_files e1
       obtain ⟨q1,q2⟩ := treeE_files e2
       have n1 := num_call (G := G) hN (n := p.length) (by omega)
       have n2 := num_call (G := G) hN (n := q.length) (by omega)
       have lm := textB_len (s := m) (by omega)
       have l1 := numB_len (n := p.length) (by omega)
       have l2 := numB_len (n := q.length) (by omega)
       have l3 := packF_len p2
       have l4 := packF_len q2
       have s1 : (textB m).length + (numB p.length).length ≤ strMax := by unfold strMax; omega
       have s2 : (textB m).length + ((numB p.length).length + (packF p).length) + (numB q.length).length ≤ strMax := by unfold strMax; omega
       have hlc : lowB 1 (Blk.cells [.str m,.sl (touchRows p),.sl (touchRows q)]) = true := rfl
       have i0 : ∀ st h,opV G st h (.iadr 1) (some [.tsl [[.sl (touchRows p)],[.sl (touchRows q)]],.int .i64 0]) = some (.fptr [.sl (touchRows p)] 0,h) := fun st h => by
        rw [opV_quiet rfl]; simp [evalPure,iadrAV]
       have i1 : ∀ st h,opV G st h (.iadr 1) (some [.tsl [[.sl (touchRows p)],[.sl (touchRows q)]],.int .i64 1]) = some (.fptr [.sl (touchRows q)] 0,h) := fun st h => by
        rw [opV_quiet rfl]; simp [evalPure,iadrAV]
       have z0 : ltB 0 2 = true := rfl
       have z1 : ltB 1 2 = true := rfl
       have z2 : ltB 2 2 = false := rfl
       have w0 : IntKind.i64.wrap 1 = 1 := rfl
       have w1 : IntKind.i64.wrap 2 = 2 := rfl
       simp only [Mc.bundle_Pack,encBun]
       simp [frInit,Ks.bundle_Pack,AV.cells,cut,mkVal,k0,c1,c2,ownsL,owns,viewL,view,sizesOk,onesOk,oneC,lenAV]
       refine head_go (Mc.bundle_Pack_L0.eq_1) ?_
       rw [vtrunc_len (n := 1) rfl]
       simp [junkAll,z0,i0,lenAV,n1,s1,cut,mkVal]
       refine head_of ?_
       rw [vtrunc_len (n := 1) rfl]
       have in1 := fun {ks} {Q} {x1 x2 x3 x5 x7 x8 x38 x39 x40} hlw {a0} ha hk => pack_L1 G hX p p1 p2 (textB m ++ numB p.length) (by simp; omega) (ks := ks) (Q := Q) (x1 := x1) (x2 := x2) (x3 := x3) (x5 := x5) (x7 := x7) (x8 := x8) (x38 := x38) (x39 := x39) (x40 := x40) (b := Blk.cells [.str m,.sl (touchRows p),.sl (touchRows q)]) hlc hlw (a0 := a0) ha hk p [] 0 rfl rfl
       simp only [packF,List.append_nil] at in1
       simp [junkAll]
       refine in1 (by simp [lowL,low]) (by simp [low,lowL]) fun env y => ?_
       simp [w0]
       refine head_of ?_
       rw [vtrunc_len (n := 1) rfl]
       refine head_go (Mc.bundle_Pack_L0.eq_1) ?_
       rw [vtrunc_len (n := 1) rfl]
       simp [junkAll,z1,i1,lenAV,n2,s2,cut,mkVal]
       refine head_of ?_
       rw [vtrunc_len (n := 1) rfl]
       have in2 := fun {ks} {Q} {x1 x2 x3 x5 x7 x8 x38 x39 x40} hlw {a0} ha hk => pack_L1 G hX q q1 q2 (textB m ++ (numB p.length ++ (packF p ++ numB q.length))) (by simp; omega) (ks := ks) (Q := Q) (x1 := x1) (x2 := x2) (x3 := x3) (x5 := x5) (x7 := x7) (x8 := x8) (x38 := x38) (x39 := x39) (x40 := x40) (b := Blk.cells [.str m,.sl (touchRows p),.sl (touchRows q)]) hlc hlw (a0 := a0) ha hk q [] 0 rfl rfl
       simp only [packF,List.append_nil] at in2
       simp [junkAll]
       refine in2 (by simp [lowL,low]) (by simp [low,lowL]) fun env y => ?_
       simp [w1]
       refine head_of ?_
       rw [vtrunc_len (n := 1) rfl]
       refine head_go (Mc.bundle_Pack_L0.eq_1) ?_
       rw [vtrunc_len (n := 1) rfl]
       simp [junkAll,pureQ,Rs.bundle_Pack,packT]
      ·have n2 : eqB (treeE q) 0 = false := eqB_not.2 e2
       rw [if_pos (.inr e2)]
       rw [e1] at c1
       simp [Mc.bundle_Pack,frInit,Ks.bundle_Pack,encBun,loadAV,cut,mkVal,k0,c1,c2,n2,pureQ,Rs.bundle_Pack]
     ·have n1 : eqB (treeE p) 0 = false := eqB_not.2 e1
      rw [if_pos (.inl e1)]
      simp [Mc.bundle_Pack,frInit,Ks.bundle_Pack,encBun,loadAV,cut,mkVal,k0,c1,n1,pureQ,Rs.bundle_Pack]
   ·cases hF
  ·cases hF
 ·cases hF
def F_packT : List AV → Option AV
 | [.sl a] => match decAll decTouch a with
  | some t => if t.length ≤ 64 ∧ (t.all fun f => decide (f.path.length ≤ 128) && decide (f.dig.length ≤ 65536)) = true then some (.str (packT t)) else none
  | none => none
 | _ => none
theorem packR_L0 (G : Gam) (hX : G Fn.q66 = some (.pure F_TextB)) (t : List Touch) (hl : t.length ≤ 64) (ht : ∀ f ∈ t,okFile f) :
  ∀ (rest dn : List Touch) (i : Nat),t = dn ++ rest → dn.length = i →
  headM G [6,8] Mc.q67_L0 0 [.blk 0,.seq (.seq (.reg [⟨none,some 45,false,.mv,[.t 3]⟩,⟨none,some 2,true,.mv,[.t 45]⟩]) .ret)] (pureQ Rs.q67 (.str (packT t))) [(0,.sl (touchRows t)),(2,.str []),(3,.str (numB t.length ++ packF dn)),(5,.int .i64 i),(6,.junk),(8,.junk)] []
 | [],dn,i,hd,hi => by
  have e : t = dn := by simpa using hd
  subst e
  have q : ltB (i : Int) (t.length : Int) = false := ltB_not.2 (by omega)
  refine head_go (Mc.q67_L0.eq_1) ?_
  rw [vtrunc_len (n := 0) rfl]
  simp [junkAll,lenAV,q,pureQ,Rs.q67,packT]
 | f :: rest,dn,i,hd,hi => by
  have hlt : i < t.length := by rw [hd]; simp; omega
  have hx : t[i]? = some f := by rw [hd,List.getElem?_append_right (by omega)]; simp [hi]
  have q : ltB (i : Int) (t.length : Int) = true := ltB_iff.2 (by omega)
  have hw := wrap1 (i := i) (by unfold big; omega)
  have r1 := touchRows_get hx
  have i1 : ∀ st h,opV G st h (.iadr 2) (some [.sl (touchRows t),.int .i64 i]) = some (.fptr [.str f.path,.str f.dig] 0,h) := fun st h => by
   rw [opV_quiet rfl]; simp [evalPure,iadrAV,r1]
  obtain ⟨f1,f2⟩ := ht f (List.mem_of_getElem? hx)
  have k1 := text_call (G := G) hX (s := f.path) (by omega)
  have k2 := text_call (G := G) hX (s := f.dig) f2
  have l0 := numB_len (n := t.length) (by omega)
  have l1 := textB_len (s := f.path) (by omega)
  have l2 := textB_len (s := f.dig) f2
  have l3 := packF_len (t := dn) fun g hg => ht g (by rw [hd]; simp [hg])
  have l4 : dn.length ≤ 64 := by omega
  have s1 := str_add (a := textB f.path) (b := textB f.dig) (by unfold strMax; omega)
  have s2 := str_add (a := numB t.length ++ packF dn) (b := textB f.path ++ textB f.dig) (by unfold strMax; simp; omega)
  have e : numB t.length ++ packF (dn ++ [f]) = numB t.length ++ packF dn ++ (textB f.path ++ textB f.dig) := by rw [packF_app]; simp [packF]
  have ih := packR_L0 G hX t hl ht rest (dn ++ [f]) (i + 1) (by rw [hd]; simp) (by simp [hi])
  rw [e] at ih
  refine head_go (Mc.q67_L0.eq_1) ?_
  rw [vtrunc_len (n := 0) rfl]
  simp only [List.append_assoc] at s2 ih
  simp [junkAll,lenAV,q,i1,cut,mkVal,k1,k2,s1,s2,hw]
  refine head_of ?_
  rw [vtrunc_len (n := 0) rfl]
  simpa [junkAll] using ih
theorem packT_ok {G : Gam} (hX : G Fn.q66 = some (.pure F_TextB)) (hN : G Fn.q48 = some (.pure F_Number)) :
  ∀ args r,F_packT args = some r → wpM G Mc.q67 (pureQ Rs.q67 r) [] (frInit Ks.q67 args) [] := by
 intro args r hF
 unfold F_packT at hF
 split at hF
 ·rename_i a
  split at hF
  ·rename_i t hd
   split at hF
   ·rename_i hb
    injection hF with hF; subst hF
    obtain rfl : a = touchRows t := decAll_of (fun r x => decTouch_of) hd
    have ht : ∀ f ∈ t,okFile f := fun f hf => by
     have := List.all_eq_true.1 hb.2 f hf
     simp only [Bool.and_eq_true,decide_eq_true_eq] at this
     exact this
    have n1 := num_call (G := G) hN (n := t.length) (by omega)
    have ih := packR_L0 G hX t hb.1 ht t [] 0 rfl rfl
    simp only [packF,List.append_nil] at ih
    rw [wpM_go]
    simp [Mc.q67,frInit,Ks.q67,lenAV,n1]
    refine head_of ?_
    rw [vtrunc_len (n := 0) rfl]
    simpa [junkAll] using ih
   ·cases hF
  ·cases hF
 ·cases hF
theorem PackR_ok {G : Gam} (hX : G Fn.q66 = some (.pure F_TextB)) (hT : G Fn.q67 = some (.pure F_packT)) (hK : G Fn.q56 = some (.pure F_treeCheck)) :
  ∀ args r,F_Pack args = some r → wpM G Mc.q64 (pureQ Rs.q64 r) [] (frInit Ks.q64 args) [] := by
 intro args r hF
 unfold F_Pack at hF
 split at hF
 ·rename_i a
  split at hF
  ·rename_i b hd
   split at hF
   ·rename_i hb
    injection hF with hF; subst hF
    obtain ⟨b1,b2,b3⟩ := hb
    obtain rfl := decBun_of hd
    obtain ⟨m,p,q⟩ := b
    simp only at b1 b2 b3
    have c1 := check_call (G := G) hK b2
    have c2 := check_call (G := G) hK b3
    rw [wpM_go]
    unfold packE
    by_cases e0 : 65536 < m.length
    ·have q0 : ltB 65536 (m.length : Int) = true := ltB_iff.2 (by omega)
     rw [if_pos e0]
     simp [Mc.q64,frInit,Ks.q64,encBun,loadAV,cut,mkVal,lenAV,q0,pureQ,Rs.q64]
    ·have q0 : ltB 65536 (m.length : Int) = false := ltB_not.2 (by omega)
     have k0 := text_call (G := G) hX (s := m) (by omega)
     simp only
     rw [if_neg e0]
     by_cases e1 : treeE p = 0
     ·by_cases e2 : treeE q = 0
      ·rw [if_neg (by simp [e1,e2])]
       rw [e1] at c1; rw [e2] at c2
       obtain ⟨p1,p2⟩ := treeE_files e1
       obtain ⟨q1,q2⟩ := treeE_files e2
       have t1 : ∀ st h,opV G st h (.call Fn.q67) (some [.sl (touchRows p)]) = some (.str (packT p),h) := fun st h => op_call hT (us := [.sl (touchRows p)]) rfl (by simp only [F_packT,dec_touchRows]; rw [if_pos ⟨p1,by rw [List.all_eq_true]; intro f hf; have := p2 f hf; simp [this.1,this.2]⟩]) (.inl rfl)
       have t2 : ∀ st h,opV G st h (.call Fn.q67) (some [.sl (touchRows q)]) = some (.str (packT q),h) := fun st h => op_call hT (us := [.sl (touchRows q)]) rfl (by simp only [F_packT,dec_touchRows]; rw [if_pos ⟨q1,by rw [List.all_eq_true]; intro f hf; have := q2 f hf; simp [this.1,this.2]⟩]) (.inl rfl)
       have lm := textB_len (s := m) (by omega)
       have l1 := numB_len (n := p.length) (by omega)
       have l2 := numB_len (n := q.length) (by omega)
       have l3 := packF_len p2
       have l4 := packF_len q2
       have s1 := str_add (a := textB m) (b := packT p) (by unfold strMax packT; simp; omega)
       have s2 := str_add (a := textB m ++ packT p) (b := packT q) (by unfold strMax packT; simp; omega)
       simp only [List.append_assoc] at s2
       simp [Mc.q64,frInit,Ks.q64,encBun,loadAV,cut,mkVal,lenAV,q0,c1,c2,k0,t1,t2,s1,s2,pureQ,Rs.q64]
      ·have n2 : eqB (treeE q) 0 = false := eqB_not.2 e2
       rw [if_pos (.inr e2)]
       rw [e1] at c1
       simp [Mc.q64,frInit,Ks.q64,encBun,loadAV,cut,mkVal,lenAV,q0,c1,c2,n2,pureQ,Rs.q64]
     ·have n1 : eqB (treeE p) 0 = false := eqB_not.2 e1
      rw [if_pos (.inl e1)]
      simp [Mc.q64,frInit,Ks.q64,encBun,loadAV,cut,mkVal,lenAV,q0,c1,n1,pureQ,Rs.q64]
   ·cases hF
  ·cases hF
 ·cases hF
end Go.Proofs.YtaadifodgahnjaaGreatDoor
namespace Go.Proofs.YtaadifodgahnjaaGreatDoor
open Go.RowKit Go.IntWalk
theorem rows_here {h : Heap} {l n : Nat} {rows : List (List AV)} (hl : h[l]? = some (.arr 2 n rows true)) (hn : rows.length = n) : rowsOf h (.own l n n) = some rows := by
 subst hn; simp [rowsOf,hl]
theorem Unpack_ok {G : Gam} (hR : G Fn.q68 = some (.gen F_NewReader)) (hT : G Fn.q40 = some (.gen F_rdText)) (hFi : G Fn.q82 = some (.gen F_files)) (hC : G Fn.q37 = some (.gen (lookF F_Close))) (hK : G Fn.tree_Check = some (.pure F_treeCheck)) :
  ∀ args r,F_Unpack args = some r → wpM G Mc.q76 (pureQ Rs.q76 r) [] (frInit Ks.q76 args) [] := by
 intro args r hF
 unfold F_Unpack at hF
 split at hF
 ·rename_i s
  split at hF
  ·rename_i hs
   injection hF with hF; subst hF
   obtain ⟨m,r0,e0⟩ : ∃ m r0,rdText 65536 ⟨s,0⟩ = (m,r0) := ⟨_,_,rfl⟩
   have b0 : r0.rest.length ≤ 1000000 := by have := rdText_bound (most := 65536) (e := 0) hs; rw [e0] at this; exact this
   obtain ⟨p,r1,e1⟩ : ∃ p r1,filesE r0 = (p,r1) := ⟨_,_,rfl⟩
   have b1 : r1.rest.length ≤ 1000000 := by have := filesE_bound b0; rw [e1] at this; exact this
   obtain ⟨q,r2,e2⟩ : ∃ q r2,filesE r1 = (q,r2) := ⟨_,_,rfl⟩
   have pp : ∀ f ∈ p,f.path.length ≤ 128 := by have := readN_paths (rdNum 0 64 r0).1.toNat (rdNum 0 64 r0).2; unfold filesE at e1; rw [e1] at this; exact this
   have pq : ∀ f ∈ q,f.path.length ≤ 128 := by have := readN_paths (rdNum 0 64 r1).1.toNat (rdNum 0 64 r1).2; unfold filesE at e2; rw [e2] at this; exact this
   have k1 : opV G false [Blk.cells [.str [],.nils,.nils]] (.call Fn.q68) (some [.str s]) = some (.ptr 1 0,[Blk.cells [.str [],.nils,.nils],rdBlk none ⟨s,0⟩]) := by rw [op_call_gen hR]; rfl
   have k2 : opV G false [Blk.cells [.str [],.nils,.nils],rdBlk none ⟨s,0⟩] (.call Fn.q40) (some [.ptr 1 0,.int .i64 65536]) = some (.str m,[Blk.cells [.str [],.nils,.nils],rdBlk none r0]) := by
    rw [op_call_gen hT]; simp [F_rdText,rdBlk,hs,e0]
   have k3 : opV G false [Blk.cells [.str [],.nils,.nils],rdBlk none r0,Blk.cells [.str m,.nils,.nils]] (.call Fn.q82) (some [.ptr 1 0]) = some (.own 4 p.length p.length,[Blk.cells [.str [],.nils,.nils],rdBlk none r1,Blk.cells [.str m,.nils,.nils],.arr 2 0 [] true,.arr 2 p.length (touchRows p) true]) := by
    rw [op_call_gen hFi]; simp [F_files,rdBlk,b0,e1,FH,touchRows]
   have k4 : opV G false [Blk.cells [.str [],.nils,.nils],rdBlk none r1,Blk.cells [.str m,.own 4 p.length p.length,.nils],.arr 2 0 [] true,.arr 2 p.length (touchRows p) true] (.call Fn.q82) (some [.ptr 1 0]) = some (.own 6 q.length q.length,[Blk.cells [.str [],.nils,.nils],rdBlk none r2,Blk.cells [.str m,.own 4 p.length p.length,.nils],.arr 2 0 [] true,.arr 2 p.length (touchRows p) true,.arr 2 0 [] true,.arr 2 q.length (touchRows q) true]) := by
    rw [op_call_gen hFi]; simp [F_files,rdBlk,b1,e2,FH,touchRows]
   have w4 : ∀ c,rowsOf [c,rdBlk none r2,Blk.cells [.str m,.own 4 p.length p.length,.own 6 q.length q.length],.arr 2 0 [] true,.arr 2 p.length (touchRows p) true,.arr 2 0 [] true,.arr 2 q.length (touchRows q) true] (.own 4 p.length p.length) = some (touchRows p) := fun c => rows_here rfl touchRows_len
   have w6 : ∀ c,rowsOf [c,rdBlk none r2,Blk.cells [.str m,.own 4 p.length p.length,.own 6 q.length q.length],.arr 2 0 [] true,.arr 2 p.length (touchRows p) true,.arr 2 0 [] true,.arr 2 q.length (touchRows q) true] (.own 6 q.length q.length) = some (touchRows q) := fun c => rows_here rfl touchRows_len
   have k5 : opV G false [Blk.cells [.str [],.nils,.nils],rdBlk none r2,Blk.cells [.str m,.own 4 p.length p.length,.own 6 q.length q.length],.arr 2 0 [] true,.arr 2 p.length (touchRows p) true,.arr 2 0 [] true,.arr 2 q.length (touchRows q) true] (.call Fn.q37) (some [.ptr 1 0]) = some (.int .i64 (rdClose r2),[Blk.cells [.str [],.nils,.nils],rdBlk none r2,Blk.cells [.str m,.own 4 p.length p.length,.own 6 q.length q.length],.arr 2 0 [] true,.arr 2 p.length (touchRows p) true,.arr 2 0 [] true,.arr 2 q.length (touchRows q) true]) := by
    rw [op_call_gen hC]; simp [lookF,F_Close,rdBlk]
   have k6 : opV G false [Blk.cells [.str [],.nils,.nils],rdBlk none r2,Blk.cells [.str m,.own 4 p.length p.length,.own 6 q.length q.length],.arr 2 0 [] true,.arr 2 p.length (touchRows p) true,.arr 2 0 [] true,.arr 2 q.length (touchRows q) true] (.call Fn.tree_Check) (some [.own 4 p.length p.length]) = some (.int .i64 (treeE p),[Blk.cells [.str [],.nils,.nils],rdBlk none r2,Blk.cells [.str m,.own 4 p.length p.length,.own 6 q.length q.length],.arr 2 0 [] true,.arr 2 p.length (touchRows p) true,.arr 2 0 [] true,.arr 2 q.length (touchRows q) true]) := op_call hK (us := [.sl (touchRows p)]) (by simp only [viewL,view,w4]; rfl) (check_rows pp) (.inl rfl)
   have k7 : opV G false [Blk.cells [.str [],.nils,.nils],rdBlk none r2,Blk.cells [.str m,.own 4 p.length p.length,.own 6 q.length q.length],.arr 2 0 [] true,.arr 2 p.length (touchRows p) true,.arr 2 0 [] true,.arr 2 q.length (touchRows q) true] (.call Fn.tree_Check) (some [.own 6 q.length q.length]) = some (.int .i64 (treeE q),[Blk.cells [.str [],.nils,.nils],rdBlk none r2,Blk.cells [.str m,.own 4 p.length p.length,.own 6 q.length q.length],.arr 2 0 [] true,.arr 2 p.length (touchRows p) true,.arr 2 0 [] true,.arr 2 q.length (touchRows q) true]) := op_call hK (us := [.sl (touchRows q)]) (by simp only [viewL,view,w6]; rfl) (check_rows pq) (.inl rfl)
   have hu : unpackE s = if rdClose r2 ≠ 0 ∨ treeE p ≠ 0 ∨ treeE q ≠ 0 then (⟨[],[],[]⟩,17) else (⟨m,p,q⟩,0) := by unfold unpackE; simp only [e0,e1,e2]
   have t0 : touchRows [] = [] := rfl
   rw [hu,wpM_go]
   by_cases q0 : rdClose r2 = 0
   ·by_cases q1 : treeE p = 0
    ·by_cases q2 : treeE q = 0
     ·rw [if_neg (by simp [q0,q1,q2])]
      rw [q0] at k5; rw [q1] at k6; rw [q2] at k7
      simp [Mc.q76,frInit,Ks.q76,k1,k2,bldAV,AV.cells,setAt,oneC,stAV,k3,k4,k5,cut,mkVal,k6,k7,pureQ,Rs.q76,resAV,resL,resOne,view,viewL,w4,w6,encBun]
     ·have n2 : eqB (treeE q) 0 = false := eqB_not.2 q2
      rw [if_pos (.inr (.inr q2))]
      rw [q0] at k5; rw [q1] at k6
      simp [Mc.q76,frInit,Ks.q76,k1,k2,bldAV,AV.cells,setAt,oneC,stAV,k3,k4,k5,cut,mkVal,k6,k7,n2,pureQ,Rs.q76,resAV,resL,resOne,view,viewL,encBun,t0]
    ·have n1 : eqB (treeE p) 0 = false := eqB_not.2 q1
     rw [if_pos (.inr (.inl q1))]
     rw [q0] at k5
     simp [Mc.q76,frInit,Ks.q76,k1,k2,bldAV,AV.cells,setAt,oneC,stAV,k3,k4,k5,cut,mkVal,k6,n1,pureQ,Rs.q76,resAV,resL,resOne,view,viewL,encBun,t0]
   ·have n0 : eqB (rdClose r2) 0 = false := eqB_not.2 q0
    rw [if_pos (.inl q0)]
    simp [Mc.q76,frInit,Ks.q76,k1,k2,bldAV,AV.cells,setAt,oneC,stAV,k3,k4,k5,cut,mkVal,n0,pureQ,Rs.q76,resAV,resL,resOne,view,viewL,encBun,t0]
  ·cases hF
 ·cases hF
end Go.Proofs.YtaadifodgahnjaaGreatDoor
namespace Go.Proofs.YtaadifodgahnjaaGreatDoor
open Go.RowKit Go.IntWalk
theorem UnpackR_ok {G : Gam} (hT : G Fn.q23 = some (.gen F_rdText)) (hFi : G Fn.q47 = some (.gen F_unpack)) (hC : G Fn.q21 = some (.gen (lookF F_Close))) (hK : G Fn.q56 = some (.pure F_treeCheck)) :
  ∀ args r,F_Unpack args = some r → wpM G Mc.q46 (pureQ Rs.q46 r) [] (frInit Ks.q46 args) [] := by
 intro args r hF
 unfold F_Unpack at hF
 split at hF
 ·rename_i s
  split at hF
  ·rename_i hs
   injection hF with hF; subst hF
   rw [unpack_S]
   obtain ⟨m,r0,e0⟩ : ∃ m r0,rdText 65536 ⟨s,0⟩ = (m,r0) := ⟨_,_,rfl⟩
   have b0 : r0.rest.length ≤ 1000000 := by have := rdText_bound (most := 65536) (e := 0) hs; rw [e0] at this; exact this
   obtain ⟨p,r1,e1⟩ : ∃ p r1,filesS r0 = (p,r1) := ⟨_,_,rfl⟩
   have b1 : r1.rest.length ≤ 1000000 := by have := filesS_bound b0; rw [e1] at this; exact this
   obtain ⟨q,r2,e2⟩ : ∃ q r2,filesS r1 = (q,r2) := ⟨_,_,rfl⟩
   have pp : ∀ f ∈ p,f.path.length ≤ 128 := by have := readS_paths (rdNum 0 64 r0).1.toNat (rdNum 0 64 r0).2; unfold filesS at e1; rw [e1] at this; exact this
   have pq : ∀ f ∈ q,f.path.length ≤ 128 := by have := readS_paths (rdNum 0 64 r1).1.toNat (rdNum 0 64 r1).2; unfold filesS at e2; rw [e2] at this; exact this
   have k2 : opV G false [Blk.cells [.str [],.nils,.nils],.cells [.str s,.int .i64 0],Blk.cells [.str [],.nils,.nils]] (.call Fn.q23) (some [.ptr 1 0,.int .i64 65536]) = some (.str m,[Blk.cells [.str [],.nils,.nils],rdBlk none r0,Blk.cells [.str [],.nils,.nils]]) := by
    rw [op_call_gen hT]; simp [F_rdText,rdBlk,hs,e0]
   have k3 : opV G false [Blk.cells [.str [],.nils,.nils],rdBlk none r0,Blk.cells [.str m,.nils,.nils]] (.call Fn.q47) (some [.ptr 1 0]) = some (.own 4 p.length p.length,[Blk.cells [.str [],.nils,.nils],rdBlk none r1,Blk.cells [.str m,.nils,.nils],.arr 2 0 [] true,.arr 2 p.length (touchRows p) true]) := by
    rw [op_call_gen hFi]; simp [F_unpack,rdBlk,b0,e1,FH,touchRows]
   have k4 : opV G false [Blk.cells [.str [],.nils,.nils],rdBlk none r1,Blk.cells [.str m,.own 4 p.length p.length,.nils],.arr 2 0 [] true,.arr 2 p.length (touchRows p) true] (.call Fn.q47) (some [.ptr 1 0]) = some (.own 6 q.length q.length,[Blk.cells [.str [],.nils,.nils],rdBlk none r2,Blk.cells [.str m,.own 4 p.length p.length,.nils],.arr 2 0 [] true,.arr 2 p.length (touchRows p) true,.arr 2 0 [] true,.arr 2 q.length (touchRows q) true]) := by
    rw [op_call_gen hFi]; simp [F_unpack,rdBlk,b1,e2,FH,touchRows]
   have w4 : ∀ c,rowsOf [c,rdBlk none r2,Blk.cells [.str m,.own 4 p.length p.length,.own 6 q.length q.length],.arr 2 0 [] true,.arr 2 p.length (touchRows p) true,.arr 2 0 [] true,.arr 2 q.length (touchRows q) true] (.own 4 p.length p.length) = some (touchRows p) := fun c => rows_here rfl touchRows_len
   have w6 : ∀ c,rowsOf [c,rdBlk none r2,Blk.cells [.str m,.own 4 p.length p.length,.own 6 q.length q.length],.arr 2 0 [] true,.arr 2 p.length (touchRows p) true,.arr 2 0 [] true,.arr 2 q.length (touchRows q) true] (.own 6 q.length q.length) = some (touchRows q) := fun c => rows_here rfl touchRows_len
   have k5 : opV G false [Blk.cells [.str [],.nils,.nils],rdBlk none r2,Blk.cells [.str m,.own 4 p.length p.length,.own 6 q.length q.length],.arr 2 0 [] true,.arr 2 p.length (touchRows p) true,.arr 2 0 [] true,.arr 2 q.length (touchRows q) true] (.call Fn.q21) (some [.ptr 1 0]) = some (.int .i64 (rdClose r2),[Blk.cells [.str [],.nils,.nils],rdBlk none r2,Blk.cells [.str m,.own 4 p.length p.length,.own 6 q.length q.length],.arr 2 0 [] true,.arr 2 p.length (touchRows p) true,.arr 2 0 [] true,.arr 2 q.length (touchRows q) true]) := by
    rw [op_call_gen hC]; simp [lookF,F_Close,rdBlk]
   have k6 : opV G false [Blk.cells [.str [],.nils,.nils],rdBlk none r2,Blk.cells [.str m,.own 4 p.length p.length,.own 6 q.length q.length],.arr 2 0 [] true,.arr 2 p.length (touchRows p) true,.arr 2 0 [] true,.arr 2 q.length (touchRows q) true] (.call Fn.q56) (some [.own 4 p.length p.length]) = some (.int .i64 (treeE p),[Blk.cells [.str [],.nils,.nils],rdBlk none r2,Blk.cells [.str m,.own 4 p.length p.length,.own 6 q.length q.length],.arr 2 0 [] true,.arr 2 p.length (touchRows p) true,.arr 2 0 [] true,.arr 2 q.length (touchRows q) true]) := op_call hK (us := [.sl (touchRows p)]) (by simp only [viewL,view,w4]; rfl) (check_rows pp) (.inl rfl)
   have k7 : opV G false [Blk.cells [.str [],.nils,.nils],rdBlk none r2,Blk.cells [.str m,.own 4 p.length p.length,.own 6 q.length q.length],.arr 2 0 [] true,.arr 2 p.length (touchRows p) true,.arr 2 0 [] true,.arr 2 q.length (touchRows q) true] (.call Fn.q56) (some [.own 6 q.length q.length]) = some (.int .i64 (treeE q),[Blk.cells [.str [],.nils,.nils],rdBlk none r2,Blk.cells [.str m,.own 4 p.length p.length,.own 6 q.length q.length],.arr 2 0 [] true,.arr 2 p.length (touchRows p) true,.arr 2 0 [] true,.arr 2 q.length (touchRows q) true]) := op_call hK (us := [.sl (touchRows q)]) (by simp only [viewL,view,w6]; rfl) (check_rows pq) (.inl rfl)
   have hu : unpackS s = if rdClose r2 ≠ 0 ∨ treeE p ≠ 0 ∨ treeE q ≠ 0 then (⟨[],[],[]⟩,17) else (⟨m,p,q⟩,0) := by unfold unpackS; simp only [e0,e1,e2]
   have t0 : touchRows [] = [] := rfl
   rw [hu,wpM_go]
   by_cases q0 : rdClose r2 = 0
   ·by_cases q1 : treeE p = 0
    ·by_cases q2 : treeE q = 0
     ·rw [if_neg (by simp [q0,q1,q2])]
      rw [q0] at k5; rw [q1] at k6; rw [q2] at k7
      simp [Mc.q46,frInit,Ks.q46,k2,bldAV,AV.cells,setAt,oneC,stAV,k3,k4,k5,cut,mkVal,k6,k7,pureQ,Rs.q46,resAV,resL,resOne,view,viewL,w4,w6,encBun]
     ·have n2 : eqB (treeE q) 0 = false := eqB_not.2 q2
      rw [if_pos (.inr (.inr q2))]
      rw [q0] at k5; rw [q1] at k6
      simp [Mc.q46,frInit,Ks.q46,k2,bldAV,AV.cells,setAt,oneC,stAV,k3,k4,k5,cut,mkVal,k6,k7,n2,pureQ,Rs.q46,resAV,resL,resOne,view,viewL,encBun,t0]
    ·have n1 : eqB (treeE p) 0 = false := eqB_not.2 q1
     rw [if_pos (.inr (.inl q1))]
     rw [q0] at k5
     simp [Mc.q46,frInit,Ks.q46,k2,bldAV,AV.cells,setAt,oneC,stAV,k3,k4,k5,cut,mkVal,k6,n1,pureQ,Rs.q46,resAV,resL,resOne,view,viewL,encBun,t0]
   ·have n0 : eqB (rdClose r2) 0 = false := eqB_not.2 q0
    rw [if_pos (.inl q0)]
    simp [Mc.q46,frInit,Ks.q46,k2,bldAV,AV.cells,setAt,oneC,stAV,k3,k4,k5,cut,mkVal,n0,pureQ,Rs.q46,resAV,resL,resOne,view,viewL,encBun,t0]
  ·cases hF
 ·cases hF
end Go.Proofs.YtaadifodgahnjaaGreatDoor
namespace Go.Proofs.YtaadifodgahnjaaGreatDoor
open Go.RowKit Go.IntWalk
theorem fewFrom_sum : ∀ {t : List Touch} {n m : Int},fewFrom m t n = true → 0 ≤ n → (∀ f ∈ t,f.path.length ≤ 300) ∧ (t ≠ [] → n + ((t.map fun f => f.dig.length).sum : Nat) ≤ m)
 | [],_,_,_,_ => ⟨by simp,by simp⟩
 | f :: r,n,m,h,h0 => by
  rw [fewFrom] at h
  split at h
  ·cases h
  ·rename_i h1
   split at h
   ·cases h
   ·rename_i h2
    obtain ⟨k1,k2⟩ := fewFrom_sum h (by omega)
    refine ⟨fun g hg => ?_,fun _ => ?_⟩
    ·rcases List.mem_cons.1 hg with rfl | hg
     ·omega
     ·exact k1 g hg
    ·cases r with
     | nil => simp; omega
     | cons g r =>
      have := k2 (by simp)
      simp only [List.map_cons,List.sum_cons] at this ⊢
      omega
theorem packF_sum : ∀ {t : List Touch},(∀ f ∈ t,okFile f) → (packF t).length ≤ t.length * 200 + (t.map fun f => f.dig.length).sum
 | [],_ => by simp [packF]
 | f :: r,h => by
  have ih := packF_sum (t := r) fun g hg => h g (by simp [hg])
  obtain ⟨h1,h2⟩ := h f (by simp)
  have a := textB_len (s := f.path) (by omega)
  have b := textB_len (s := f.dig) h2
  simp only [packF,List.length_append,List.length_cons,List.map_cons,List.sum_cons]
  omega
theorem fewT_pack {t : List Touch} (h : fewT 30 8000 t = true) (ht : treeE t = 0) : (packT t).length ≤ 20000 := by
 unfold fewT at h
 split at h
 ·cases h
 ·rename_i hl
  obtain ⟨h1,h2⟩ := treeE_files ht
  obtain ⟨k1,k2⟩ := fewFrom_sum h (by omega)
  have a := packF_sum h2
  have b := numB_len (n := t.length) (by omega)
  unfold packT
  rw [List.length_append]
  by_cases e : t = []
  ·subst e; simp only [packF,List.length_nil] at b ⊢; omega
  ·have := k2 e
   omega
theorem fewT_paths {t : List Touch} (h : fewT 30 8000 t = true) : (t.all fun f => decide (f.path.length < 4294967281)) = true := by
 unfold fewT at h
 split at h
 ·cases h
 ·obtain ⟨k1,_⟩ := fewFrom_sum h (by omega)
  rw [List.all_eq_true]
  intro f hf
  have := k1 f hf
  simp; omega
theorem few_pack {b : Bun} (h : fewB b = true) : (packE b).1.length ≤ 100000 := by
 unfold fewB at h
 simp only [Bool.and_eq_true,decide_eq_true_eq] at h
 obtain ⟨h1,h2,h3⟩ := h
 unfold packE
 split
 ·simp
 ·split
  ·simp
  ·rename_i hn
   simp only [not_or,Decidable.not_not] at hn
   have a := fewT_pack h2 hn.1
   have c := fewT_pack h3 hn.2
   have d := textB_len (s := b.man) (by omega)
   simp only [List.length_append]
   omega
def okBun (b : Bun) : Prop := b.pap.length < big ∧ b.src.length < big ∧ (b.pap.all fun f => decide (f.dig.length ≤ 4294967296)) = true ∧ (b.src.all fun f => decide (f.dig.length ≤ 4294967296)) = true
instance (b : Bun) : Decidable (okBun b) := inferInstanceAs (Decidable (_ ∧ _ ∧ _ ∧ _))
def F_BundlePacks : List AV → Option AV
 | [a] => match decBun a with
  | some b => if okBun b then some (.bool true) else none
  | none => none
 | _ => none
theorem BundlePacks_ok {G : Gam} (hA : G Fn.q55 = some (.pure F_awake)) (hF : G Fn.q39 = some (.pure F_FewB)) (hP : G Fn.bundle_Pack = some (.pure F_Pack)) (hQ : G Fn.q64 = some (.pure F_Pack)) (hU : G Fn.q76 = some (.pure F_Unpack)) (hS : G Fn.q65 = some (.pure F_SameB)) :
  ∀ args r,F_BundlePacks args = some r → wpM G Mc.q30 (pureQ Rs.q30 r) [] (frInit Ks.q30 args) [] := by
 intro args r hF0
 unfold F_BundlePacks at hF0
 split at hF0
 ·rename_i a
  split at hF0
  ·rename_i b hd
   split at hF0
   ·rename_i hok
    injection hF0 with hF0; subst hF0
    obtain rfl := decBun_of hd
    have ka : ∀ st h,opV G st h (.call Fn.q55) (some []) = some (.bool true,h) := fun st h => op_call hA (us := []) rfl rfl (.inl rfl)
    have kf : ∀ st h,opV G st h (.call Fn.q39) (some [encBun b]) = some (.bool (fewB b),h) := fun st h => op_call hF (us := [encBun b]) (by simp [viewL,view,encBun]) (by simp only [F_FewB,decBun_enc]; exact if_pos hok) (.inl rfl)
    rw [wpM_go]
    have eb : encBun b = .agg [.str b.man,.sl (touchRows b.pap),.sl (touchRows b.src)] := rfl
    cases hf : fewB b with
    | false =>
     rw [hf] at kf
     rw [eb] at kf
     simp [Mc.q30,frInit,Ks.q30,eb,loadAV,cut,mkVal,ka,kf,pureQ,Rs.q30]
    | true =>
     rw [hf] at kf
     rw [eb] at kf
     have hf2 := hf
     unfold fewB at hf2
     simp only [Bool.and_eq_true,decide_eq_true_eq] at hf2
     have hpk : F_Pack [encBun b] = some (.tup [.str (packE b).1,.int .i64 (packE b).2]) := by
      simp only [F_Pack,decBun_enc]
      rw [if_pos ⟨by omega,fewT_paths hf2.2.1,fewT_paths hf2.2.2⟩]
     have kp : ∀ st h,opV G st h (.call Fn.bundle_Pack) (some [.agg [.str b.man,.sl (touchRows b.pap),.sl (touchRows b.src)]]) = some (.tup [.str (packE b).1,.int .i64 (packE b).2],h) := fun st h => op_call hP (us := [encBun b]) (by simp [viewL,view,encBun]) hpk (.inl rfl)
     have kq : ∀ st h,opV G st h (.call Fn.q64) (some [.agg [.str b.man,.sl (touchRows b.pap),.sl (touchRows b.src)]]) = some (.tup [.str (packE b).1,.int .i64 (packE b).2],h) := fun st h => op_call hQ (us := [encBun b]) (by simp [viewL,view,encBun]) hpk (.inl rfl)
     have hlen := few_pack hf
     obtain ⟨s,e,he⟩ : ∃ s e,packE b = (s,e) := ⟨_,_,rfl⟩
     rw [he] at kp kq hlen
     have be : ∀ op,binAV op (.str s) (.str s) = strBin op s s := fun _ => rfl
     by_cases h0 : e = 0
     ·subst h0
      have hup := unpack_pack he
      have ku : ∀ h,opV G false h (.call Fn.q76) (some [.str s]) = some (.tup [encBun b,.int .i64 0],h) := fun h => op_call hU (us := [.str s]) rfl (by simp only [F_Unpack]; rw [if_pos (by simp only at hlen; omega),hup]) (.inr rfl)
      rw [eb] at ku
      have ks : ∀ st h,opV G st h (.call Fn.q65) (some [.agg [.str b.man,.sl (touchRows b.pap),.sl (touchRows b.src)],.agg [.str b.man,.sl (touchRows b.pap),.sl (touchRows b.src)]]) = some (.bool true,h) := fun st h => op_call hS (us := [encBun b,encBun b]) (by simp [viewL,view,encBun]) (by simp only [F_SameB,decBun_enc]; rw [if_pos ⟨hok.1,hok.2.1⟩]; simp) (.inl rfl)
      simp [Mc.q30,frInit,Ks.q30,eb,AV.cells,loadAV,cut,mkVal,ka,kf,kp,kq,be,strBin,ku,stAV,oneC,setAt,ks,pureQ,Rs.q30]
     ·have qe : eqB e 0 = false := eqB_not.2 h0
      simp [Mc.q30,frInit,Ks.q30,eb,loadAV,cut,mkVal,ka,kf,kp,kq,be,strBin,qe,pureQ,Rs.q30]
   ·cases hF0
  ·cases hF0
 ·cases hF0
theorem rdText_le {m : Int} {r : Rd} : (rdText m r).1.length ≤ r.rest.length := by
 unfold rdText
 split
 ·simp
 ·split
  ·split
   ·simp
   ·split
    ·simp
    ·split
     ·simp
     ·simp; omega
  ·simp
  ·simp
theorem unpackE_ok {s : Bs} (hs : s.length ≤ 1000000) : (unpackE s).1.man.length ≤ 1000000 ∧ ((unpackE s).1.pap.all fun f => decide (f.path.length < 4294967281)) = true ∧ ((unpackE s).1.src.all fun f => decide (f.path.length < 4294967281)) = true ∧ (unpackE s).1.pap.length < big ∧ (unpackE s).1.src.length < big := by
 have hp : ∀ r : Rd,((filesE r).1.all fun f => decide (f.path.length < 4294967281)) = true := fun r => by
  rw [List.all_eq_true]
  intro f hf
  have := readN_paths (rdNum 0 64 r).1.toNat (rdNum 0 64 r).2 f hf
  simp; omega
 have hl : ∀ r : Rd,(filesE r).1.length < big := fun r => by
  have hn : ∀ (n : Nat) (r : Rd),(readN n r).1.length = n := by
   intro n
   induction n with
   | zero => intro r; rfl
   | succ n ih => intro r; simp [readN,ih]
  unfold filesE
  rw [hn]
  have := rdNum_range (r := r)
  unfold big; omega
 unfold unpackE
 split
 ·exact ⟨by simp,rfl,rfl,by simp [big],by simp [big]⟩
 ·refine ⟨?_,hp _,hp _,hl _,hl _⟩
  have := rdText_le (m := 65536) (r := ⟨s,0⟩)
  simp only at this ⊢
  omega
def F_BundleUnpacks : List AV → Option AV
 | [.str s] => if s.length < big then some (.bool true) else none
 | _ => none
theorem BundleUnpacks_ok {G : Gam} (hA : G Fn.q55 = some (.pure F_awake)) (hP : G Fn.bundle_Pack = some (.pure F_Pack)) (hU : G Fn.q76 = some (.pure F_Unpack)) (hV : G Fn.q46 = some (.pure F_Unpack)) (hS : G Fn.q65 = some (.pure F_SameB)) :
  ∀ args r,F_BundleUnpacks args = some r → wpM G Mc.q26 (pureQ Rs.q26 r) [] (frInit Ks.q26 args) [] := by
 intro args r hF0
 unfold F_BundleUnpacks at hF0
 split at hF0
 ·rename_i s
  split at hF0
  ·rename_i hsb
   injection hF0 with hF0; subst hF0
   have ka : ∀ st h,opV G st h (.call Fn.q55) (some []) = some (.bool true,h) := fun st h => op_call hA (us := []) rfl rfl (.inl rfl)
   rw [wpM_go]
   by_cases hl : 4000 < s.length
   ·have q : ltB 4000 (s.length : Int) = true := ltB_iff.2 (by omega)
    simp [Mc.q26,frInit,Ks.q26,lenAV,ka,q,pureQ,Rs.q26]
   ·have q : ltB 4000 (s.length : Int) = false := ltB_not.2 (by omega)
    obtain ⟨o1,o2,o3,o4,o5⟩ := unpackE_ok (s := s) (by omega)
    have hu : F_Unpack [.str s] = some (.tup [encBun (unpackE s).1,.int .i64 (unpackE s).2]) := by simp only [F_Unpack]; rw [if_pos (by omega)]
    obtain ⟨b,e,he⟩ : ∃ b e,unpackE s = (b,e) := ⟨_,_,rfl⟩
    rw [he] at hu o1 o2 o3 o4 o5
    simp only at hu o1 o2 o3 o4 o5
    have ku : ∀ h,opV G false h (.call Fn.q76) (some [.str s]) = some (.tup [encBun b,.int .i64 e],h) := fun h => op_call hU (us := [.str s]) rfl hu (.inr rfl)
    have kv : ∀ h,opV G false h (.call Fn.q46) (some [.str s]) = some (.tup [encBun b,.int .i64 e],h) := fun h => op_call hV (us := [.str s]) rfl hu (.inr rfl)
    have ks : ∀ st h,opV G st h (.call Fn.q65) (some [.agg [.str b.man,.sl (touchRows b.pap),.sl (touchRows b.src)],.agg [.str b.man,.sl (touchRows b.pap),.sl (touchRows b.src)]]) = some (.bool true,h) := fun st h => op_call hS (us := [encBun b,encBun b]) (by simp [viewL,view,encBun]) (by simp only [F_SameB,decBun_enc]; rw [if_pos ⟨o4,o5⟩]; simp) (.inl rfl)
    have kp : ∀ st h,opV G st h (.call Fn.bundle_Pack) (some [.agg [.str b.man,.sl (touchRows b.pap),.sl (touchRows b.src)]]) = some (.tup [.str (packE b).1,.int .i64 (packE b).2],h) := fun st h => op_call hP (us := [encBun b]) (by simp [viewL,view,encBun]) (by simp only [F_Pack,decBun_enc]; rw [if_pos ⟨o1,o2,o3⟩]) (.inl rfl)
    have eb : encBun b = .agg [.str b.man,.sl (touchRows b.pap),.sl (touchRows b.src)] := rfl
    rw [eb] at ku kv
    by_cases h0 : e = 0
    ·subst h0
     have hpu := pack_unpack he
     rw [hpu] at kp
     have be : binAV .eql (.str s) (.str s) = some (.bool true) := by simp [binAV,strBin]
     simp [Mc.q26,frInit,Ks.q26,lenAV,ka,q,ku,kv,AV.cells,loadAV,cut,mkVal,stAV,oneC,setAt,ks,kp,be,pureQ,Rs.q26]
    ·have qe : eqB e 0 = false := eqB_not.2 h0
     simp [Mc.q26,frInit,Ks.q26,lenAV,ka,q,ku,kv,AV.cells,loadAV,cut,mkVal,stAV,oneC,setAt,ks,kp,qe,pureQ,Rs.q26]
  ·cases hF0
 ·cases hF0
end Go.Proofs.YtaadifodgahnjaaGreatDoor
