/- The order of strings. The reference: trees. The reference: a tree is checked. The parts of law 46,together. The chain of contracts up to the laws BundlePacks and BundleUnpacks,over what the library' -/
import Derived.Test.YtaadifodgahnjaaGreatDoorAm10
import Derived.Test.YtaadifodgahnjaaGreatDoorRmI
import Derived.Test.YtaadifodgahnjaaGreatDoorPkB
import Derived.Test.YtaadifodgahnjaaGreatDoorRmS
import Derived.Test.YtaadifodgahnjaaGreatDoorRmH
import Derived.Test.YtaadifodgahnjaaGreatDoorRmL
import Derived.Test.YtaadifodgahnjaaGreatDoorAm11
import Derived.Test.YtaadifodgahnjaaGreatDoorRmM
import Derived.Test.YtaadifodgahnjaaGreatDoorRmN
import Derived.Test.YtaadifodgahnjaaGreatDoorAwA
namespace Go.Proofs.YtaadifodgahnjaaGreatDoor
open Go.RowKit
theorem less_or (a b : Bs) : (Op.bytesLess a b || a == b) = !(Op.bytesLess b a) := by
 induction a generalizing b with
 | nil => cases b <;> rfl
 | cons x xs ih =>
  cases b with
  | nil => rfl
  | cons y ys =>
   have h := ih ys
   simp only [Op.bytesLess]
   by_cases hxy : x = y
   ·subst hxy
    simpa using h
   ·have hyx : ¬ y = x := fun e => hxy e.symm
    have hn : x.toNat ≠ y.toNat := fun e => hxy (UInt8.toNat_inj.1 e)
    have e1 : (x == y) = false := by simp [hxy]
    have e2 : (y == x) = false := by simp [hyx]
    have e3 : (x :: xs == y :: ys) = false := by simp [hxy]
    rw [e1,e2,e3]
    simp only [Bool.false_and,Bool.or_false]
    rw [Bool.eq_iff_iff]
    simp only [decide_eq_true_eq,Bool.not_eq_true',decide_eq_false_iff_not,UInt8.lt_iff_toNat_lt]
    omega
end Go.Proofs.YtaadifodgahnjaaGreatDoor
namespace Go.Proofs.YtaadifodgahnjaaGreatDoor
open Go.RowKit Go.IntWalk
theorem chk03_L1 (G : Gam) (hB : G Fn.q58 = some (.pure F_below)) (t : List Touch) (hb : t.length ≤ 64) (ht : ∀ f ∈ t,f.path.length < 4294967281) (i : Nat) (hi : i ≤ t.length) (f : Touch) (r : Int) {ks : List MK} : ∀ (rest : List Touch) (j : Nat),(t.take i).drop j = rest → j ≤ i →
  ((rest.any fun g => belowE f.path g.path) = true → r = 6) →
  ((rest.any fun g => belowE f.path g.path) = false → ∀ env j',exM G .normal ks (pureQ Rs.q56 (.int .i64 r)) env [(0,.sl (touchRows t)),(2,.int .i64 0),(3,.int .i64 i),(4,.ptr 0 0),(5,j'),(9,.sl (touchRows t)),(10,.int .i64 t.length),(11,.int .i64 i)] [.cells [.str f.path,.str f.dig]]) →
  headM G [] Mc.q56_L1 1 (.blk 2 :: ks) (pureQ Rs.q56 (.int .i64 r)) [(0,.sl (touchRows t)),(2,.int .i64 0),(3,.int .i64 i),(4,.ptr 0 0),(5,.int .i64 j),(9,.sl (touchRows t)),(10,.int .i64 t.length),(11,.int .i64 i)] [.cells [.str f.path,.str f.dig]]
 | [],j,hd,hj,h6,hk => by
  have hi2 := drop_nil hd
  rw [List.length_take] at hi2
  have e : j = i := by omega
  subst e
  have hl : ltB (j : Int) (j : Int) = false := ltB_not.2 (by omega)
  refine head_go (Mc.q56_L1.eq_1) ?_
  simp [vtrunc_len (n := 1) (h := [.cells [.str f.path,.str f.dig]]) rfl]
  exact hk rfl _ _
 | g :: rest,j,hd,hj,h6,hk => by
  obtain ⟨hlt,hx,hxd⟩ := drop_cons hd
  rw [List.length_take] at hlt
  have hx2 : t[j]? = some g := by rw [List.getElem?_take_of_lt (by omega)] at hx; exact hx
  have hl : ltB (j : Int) (i : Int) = true := ltB_iff.2 (by omega)
  have hw := wrap1 (i := j) (by unfold big; omega)
  have hrow := touchRows_get hx2
  have hgl := ht g (List.mem_of_getElem? hx2)
  have ir : ∀ st h,opV G st h (.iadr 2) (some [.sl (touchRows t),.int .i64 j]) = some (.fptr [.str g.path,.str g.dig] 0,h) := fun st h => by
   rw [opV_quiet rfl]; simp [evalPure,iadrAV,hrow]
  have cb : ∀ st h,opV G st h (.call Fn.q58) (some [.str f.path,.str g.path]) = some (.bool (belowE f.path g.path),h) := fun st h => op_call hB (us := [.str f.path,.str g.path]) rfl (by simp only [F_below]; rw [if_pos (by unfold big; omega)]) (.inl rfl)
  refine head_go (Mc.q56_L1.eq_1) ?_
  cases hbl : belowE f.path g.path with
  | true =>
   rw [hbl] at cb
   have hr := h6 (by simp [hbl])
   subst hr
   simp [hl,vtrunc_len (n := 1) (h := [.cells [.str f.path,.str f.dig]]) rfl,ir,cb,cut,mkVal,pureQ,Rs.q56]
  | false =>
   rw [hbl] at cb
   have ih := chk03_L1 G hB t hb ht i hi f r (ks := ks) rest (j + 1) hxd (by omega) (fun h => h6 (by simp [hbl,h])) (fun h => hk (by simp [hbl,h]))
   simp [hl,vtrunc_len (n := 1) (h := [.cells [.str f.path,.str f.dig]]) rfl,ir,cb,hw,cut,mkVal]
   simpa using ih
end Go.Proofs.YtaadifodgahnjaaGreatDoor
namespace Go.Proofs.YtaadifodgahnjaaGreatDoor
open Go.RowKit Go.IntWalk
theorem check03_L0 (G : Gam) (hP : G Fn.q70 = some (.pure F_Path)) (hB : G Fn.q58 = some (.pure F_below)) (t : List Touch) (hb : t.length ≤ 64)
  (ht : ∀ f ∈ t,f.path.length < 4294967281) (r : Int) : ∀ (rest : List Touch) (i : Nat) (x y z : AV) (H : Heap),t.drop i = rest → i ≤ t.length → r = treeFrom (t.take i) rest →
  headM G [3,4,5] Mc.q56_L0 0 [.blk 0,.seq (.seq (.reg [⟨none,some 2,true,.mv,[.c (.int .i64 0)]⟩]) .ret)] (pureQ Rs.q56 (.int .i64 r))
   [(0,.sl (touchRows t)),(2,.int .i64 0),(3,x),(4,y),(5,z),(9,.sl (touchRows t)),(10,.int .i64 t.length),(11,.int .i64 i)] H
 | [],i,x,y,z,H,hd,hi,hr => by
  have hi2 := drop_nil hd
  have hl : ltB (i : Int) (t.length : Int) = false := ltB_not.2 (by omega)
  simp only [treeFrom] at hr
  subst hr
  refine head_go (Mc.q56_L0.eq_1) ?_
  simp [hl,trunc,lowFr,low,lowH,pureQ,Rs.q56]
 | f :: rest,i,x,y,z,H,hd,hi,hr => by
  obtain ⟨hlt,hx,hxd⟩ := drop_cons hd
  have hl : ltB (i : Int) (t.length : Int) = true := ltB_iff.2 (by omega)
  have hmem : f ∈ t := List.mem_of_getElem? hx
  have hpl := ht f hmem
  have hrow := touchRows_get hx
  have hw : IntKind.i64.wrap ((i : Int) + 1) = ((i + 1 : Nat) : Int) := wrap1 (by unfold big; omega)
  have ir : ∀ st h,opV G st h (.iadr 2) (some [.sl (touchRows t),.int .i64 i]) = some (.fptr [.str f.path,.str f.dig] 0,h) := fun st h => by
   rw [opV_quiet rfl]; simp [evalPure,iadrAV,hrow]
  have cp : ∀ st h,opV G st h (.call Fn.q70) (some [.str f.path]) = some (.int .i64 (if pathOK f.path then 0 else 2),h) := fun st h => op_call hP (us := [.str f.path]) rfl (F1_use (A := eStr) (R := eInt) (x := f.path) (by simp [hpl])) (.inl rfl)
  rw [treeFrom] at hr
  refine head_go (Mc.q56_L0.eq_1) ?_
  cases hp : pathOK f.path with
  | false =>
   rw [if_pos hp] at hr
   subst hr
   rw [hp] at cp
   have q : eqB 2 0 = false := rfl
   simp [hl,trunc,lowFr,low,lowH,ir,cp,q,oneC,AV.cells,setAt,cut,mkVal,pureQ,Rs.q56]
  | true =>
   rw [if_neg (by simp [hp])] at hr
   rw [hp] at cp
   by_cases hd : 65536 < f.dig.length
   ·rw [if_pos hd] at hr
    subst hr
    have q : ltB 65536 (f.dig.length : Int) = true := ltB_iff.2 (by omega)
    simp [hl,trunc,lowFr,low,lowH,ir,cp,q,lenAV,oneC,AV.cells,setAt,cut,mkVal,pureQ,Rs.q56]
   ·rw [if_neg hd] at hr
    have q : ltB 65536 (f.dig.length : Int) = false := ltB_not.2 (by omega)
    have htk : t.take (i + 1) = t.take i ++ [f] := by rw [List.take_add_one,hx]; rfl
    have ih := fun X Y Z H' hr' => check03_L0 G hP hB t hb ht r rest (i + 1) X Y Z H' hxd (by omega) hr'
    rw [htk] at ih
    by_cases hi0 : i = 0
    ·subst hi0
     have g0 : ltB 0 0 = false := rfl
     have w1 : IntKind.i64.wrap 1 = 1 := rfl
     rw [if_neg (by simp),if_neg (by simp)] at hr
     have ih2 := fun X Y Z H' => ih X Y Z H' hr
     have inner := fun ks h => chk03_L1 G hB t hb ht 0 (by omega) f r (ks := ks) [] 0 (by simp) (by omega) (fun h => by simp at h) h
     simp at ir hl inner
     simp [hl,trunc,lowFr,low,lowH,ir,cp,q,lenAV,oneC,AV.cells,setAt,cut,mkVal]
     refine inner _ fun env j' => ?_
     simp [w1]
     simpa using ih2 _ _ _ _
    ·obtain ⟨g,hg⟩ : ∃ g,t[i - 1]? = some g := ⟨_,List.getElem?_eq_getElem (by omega)⟩
     have hlast := last_take (by omega) hg
     have g0 : ltB 0 (i : Int) = true := ltB_iff.2 (by omega)
     have ws : IntKind.i64.wrap ((i : Int) - 1) = (i : Int) - 1 := i64_in _ ⟨by omega,by omega⟩
     have hgr := touchRows_get hg
     have ir2 : ∀ st h,opV G st h (.iadr 2) (some [.sl (touchRows t),.int .i64 ((i : Int) - 1)]) = some (.fptr [.str g.path,.str g.dig] 0,h) := fun st h => by
      have e : ((i : Int) - 1) = ((i - 1 : Nat) : Int) := by omega
      rw [e,opV_quiet rfl]; simp [evalPure,iadrAV,hgr]
     have bg : binAV .leq (.str f.path) (.str g.path) = some (.bool (!(Op.bytesLess g.path f.path))) := by simp only [binAV,strBin,less_or]
     rw [hlast] at hr
     cases hbl : Op.bytesLess g.path f.path with
     | false =>
      rw [hbl] at bg
      simp only [Option.map_some,hbl,if_true] at hr
      subst hr
      simp [hl,trunc,lowFr,low,lowH,ir,ir2,cp,q,g0,ws,bg,lenAV,oneC,AV.cells,setAt,cut,mkVal,pureQ,Rs.q56]
     | true =>
      rw [hbl] at bg
      simp only [Option.map_some,hbl,Option.some.injEq,Bool.true_eq_false,if_false] at hr
      have inner := fun ks h6 h => chk03_L1 G hB t hb ht i hi f r (ks := ks) (t.take i) 0 rfl (by omega) h6 h
      simp only [Int.natCast_zero] at inner
      simp [hl,trunc,lowFr,low,lowH,ir,ir2,cp,q,g0,ws,bg,lenAV,oneC,AV.cells,setAt,cut,mkVal]
      refine inner _ (fun h6 => by rw [hr,if_pos h6]) fun h env j' => ?_
      rw [h] at hr
      simp only [Bool.false_eq_true,if_false] at hr
      have ih2 := fun X Y Z H' => ih X Y Z H' hr
      simp [hw]
      simpa using ih2 _ _ _ _
theorem treeCheck03_ok {G : Gam} (hP : G Fn.q70 = some (.pure F_Path)) (hB : G Fn.q58 = some (.pure F_below)) :
  ∀ args r,F_treeCheck args = some r → wpM G Mc.q56 (pureQ Rs.q56 r) [] (frInit Ks.q56 args) [] := by
 intro args r hF
 unfold F_treeCheck at hF
 split at hF
 ·rename_i rows
  split at hF
  ·rename_i t hdec
   split at hF
   ·rename_i hall
    injection hF with hF; subst hF
    have hrows : rows = touchRows t := decAll_of (fun r x => decTouch_of) hdec
    subst hrows
    have ht : ∀ f ∈ t,f.path.length < 4294967281 := by simpa using hall
    rw [wpM_go]
    by_cases hb : 64 < t.length
    ·have q : ltB 64 (t.length : Int) = true := ltB_iff.2 (by omega)
     have e : treeE t = 10 := by unfold treeE; rw [if_pos hb]
     rw [e]
     simp [Mc.q56,frInit,Ks.q56,lenAV,q,pureQ,Rs.q56]
    ·have q : ltB 64 (t.length : Int) = false := ltB_not.2 (by omega)
     have e : treeE t = treeFrom [] t := by unfold treeE; rw [if_neg hb]
     rw [e]
     have ih := check03_L0 G hP hB t (by omega) ht _ t 0 .junk .junk .junk [] rfl (by omega) rfl
     simp [Mc.q56,frInit,Ks.q56,lenAV,q]
     simpa using ih
   ·cases hF
  ·cases hF
 ·cases hF
end Go.Proofs.YtaadifodgahnjaaGreatDoor
namespace Go.Proofs.YtaadifodgahnjaaGreatDoor
open Go.RowKit
structure Lib46 (m : GvP) : Prop where
 split : PureOK Tryz.prog (gv1 m) Fn.q78 F_Split
 itoa : PureOK Tryz.prog (gv1 m) Fn.q84 F_Itoa
 idx : PureOK Tryz.prog (gv1 m) Fn.q49 F_IndexByte
 hp : PureOK Tryz.prog (gv1 m) Fn.q18 F_HasPrefix
 clone : PureOK Tryz.prog (gv1 m) Fn.q22 F_CloneS
 awake : PureOK Tryz.prog (gv1 m) Fn.q55 F_awake
noncomputable def Ga0 : Gam := Gam.none
theorem ga0_ok (m : GvP) (_H : Lib46 m) : GamOK Tryz.prog (gv1 m) Ga0 := gam_none _
noncomputable def Ga1 : Gam := Ga0.add Fn.q78 (.pure F_Split)
theorem ga1_ok (m : GvP) (H : Lib46 m) : GamOK Tryz.prog (gv1 m) Ga1 := gam_add (ga0_ok m H) (by kernel_rfl) (H.split)
noncomputable def Ga2 : Gam := Ga1.add Fn.q84 (.pure F_Itoa)
theorem ga2_ok (m : GvP) (H : Lib46 m) : GamOK Tryz.prog (gv1 m) Ga2 := gam_add (ga1_ok m H) (by kernel_rfl) (H.itoa)
noncomputable def Ga3 : Gam := Ga2.add Fn.q49 (.pure F_IndexByte)
theorem ga3_ok (m : GvP) (H : Lib46 m) : GamOK Tryz.prog (gv1 m) Ga3 := gam_add (ga2_ok m H) (by kernel_rfl) (H.idx)
noncomputable def Ga4 : Gam := Ga3.add Fn.q18 (.pure F_HasPrefix)
theorem ga4_ok (m : GvP) (H : Lib46 m) : GamOK Tryz.prog (gv1 m) Ga4 := gam_add (ga3_ok m H) (by kernel_rfl) (H.hp)
noncomputable def Ga5 : Gam := Ga4.add Fn.q22 (.pure F_CloneS)
theorem ga5_ok (m : GvP) (H : Lib46 m) : GamOK Tryz.prog (gv1 m) Ga5 := gam_add (ga4_ok m H) (by kernel_rfl) (H.clone)
noncomputable def Ga6 : Gam := Ga5.add Fn.q77 (.pure F_CloneS)
theorem ga6_ok (m : GvP) (H : Lib46 m) : GamOK Tryz.prog (gv1 m) Ga6 := gam_add (ga5_ok m H) (by kernel_rfl) (Pure.q77 (ga5_ok m H) (CloneS_ok rfl))
noncomputable def Ga7 : Gam := Ga6.add Fn.q50 (.pure F_HasPrefix)
theorem ga7_ok (m : GvP) (H : Lib46 m) : GamOK Tryz.prog (gv1 m) Ga7 := gam_add (ga6_ok m H) (by kernel_rfl) (Pure.q50 (ga6_ok m H) (HasPrefix_ok rfl))
noncomputable def Ga8 : Gam := Ga7.add Fn.q45 (.pure (F_Dec 1))
theorem ga8_ok (m : GvP) (H : Lib46 m) : GamOK Tryz.prog (gv1 m) Ga8 := gam_add (ga7_ok m H) (by kernel_rfl) (Pure.q45 (ga7_ok m H) (Dec_ok 0 (by omega) (.inl rfl)))
noncomputable def Ga9 : Gam := Ga8.add Fn.q45 (.pure (F_Dec 2))
theorem ga9_ok (m : GvP) (H : Lib46 m) : GamOK Tryz.prog (gv1 m) Ga9 := gam_add (ga8_ok m H) (by kernel_rfl) (Pure.q45 (ga8_ok m H) (Dec_ok 1 (by omega) (.inr rfl)))
noncomputable def Ga10 : Gam := Ga9.add Fn.q45 (.pure (F_Dec 3))
theorem ga10_ok (m : GvP) (H : Lib46 m) : GamOK Tryz.prog (gv1 m) Ga10 := gam_add (ga9_ok m H) (by kernel_rfl) (Pure.q45 (ga9_ok m H) (Dec_ok 2 (by omega) (.inr rfl)))
noncomputable def Ga11 : Gam := Ga10.add Fn.q45 (.pure (F_Dec 4))
theorem ga11_ok (m : GvP) (H : Lib46 m) : GamOK Tryz.prog (gv1 m) Ga11 := gam_add (ga10_ok m H) (by kernel_rfl) (Pure.q45 (ga10_ok m H) (Dec_ok 3 (by omega) (.inr rfl)))
noncomputable def Ga12 : Gam := Ga11.add Fn.q45 (.pure (F_Dec 5))
theorem ga12_ok (m : GvP) (H : Lib46 m) : GamOK Tryz.prog (gv1 m) Ga12 := gam_add (ga11_ok m H) (by kernel_rfl) (Pure.q45 (ga11_ok m H) (Dec_ok 4 (by omega) (.inr rfl)))
noncomputable def Ga13 : Gam := Ga12.add Fn.q45 (.pure (F_Dec 6))
theorem ga13_ok (m : GvP) (H : Lib46 m) : GamOK Tryz.prog (gv1 m) Ga13 := gam_add (ga12_ok m H) (by kernel_rfl) (Pure.q45 (ga12_ok m H) (Dec_ok 5 (by omega) (.inr rfl)))
noncomputable def Ga14 : Gam := Ga13.add Fn.q45 (.pure (F_Dec 7))
theorem ga14_ok (m : GvP) (H : Lib46 m) : GamOK Tryz.prog (gv1 m) Ga14 := gam_add (ga13_ok m H) (by kernel_rfl) (Pure.q45 (ga13_ok m H) (Dec_ok 6 (by omega) (.inr rfl)))
noncomputable def Ga15 : Gam := Ga14.add Fn.q45 (.pure (F_Dec 8))
theorem ga15_ok (m : GvP) (H : Lib46 m) : GamOK Tryz.prog (gv1 m) Ga15 := gam_add (ga14_ok m H) (by kernel_rfl) (Pure.q45 (ga14_ok m H) (Dec_ok 7 (by omega) (.inr rfl)))
noncomputable def Ga16 : Gam := Ga15.add Fn.q45 (.pure (F_Dec 9))
theorem ga16_ok (m : GvP) (H : Lib46 m) : GamOK Tryz.prog (gv1 m) Ga16 := gam_add (ga15_ok m H) (by kernel_rfl) (Pure.q45 (ga15_ok m H) (Dec_ok 8 (by omega) (.inr rfl)))
noncomputable def Ga17 : Gam := Ga16.add Fn.q45 (.pure (F_Dec 10))
theorem ga17_ok (m : GvP) (H : Lib46 m) : GamOK Tryz.prog (gv1 m) Ga17 := gam_add (ga16_ok m H) (by kernel_rfl) (Pure.q45 (ga16_ok m H) (Dec_ok 9 (by omega) (.inr rfl)))
noncomputable def Ga18 : Gam := Ga17.add Fn.q45 (.pure (F_Dec 11))
theorem ga18_ok (m : GvP) (H : Lib46 m) : GamOK Tryz.prog (gv1 m) Ga18 := gam_add (ga17_ok m H) (by kernel_rfl) (Pure.q45 (ga17_ok m H) (Dec_ok 10 (by omega) (.inr rfl)))
noncomputable def Ga19 : Gam := Ga18.add Fn.q45 (.pure (F_Dec 12))
theorem ga19_ok (m : GvP) (H : Lib46 m) : GamOK Tryz.prog (gv1 m) Ga19 := gam_add (ga18_ok m H) (by kernel_rfl) (Pure.q45 (ga18_ok m H) (Dec_ok 11 (by omega) (.inr rfl)))
noncomputable def Ga20 : Gam := Ga19.add Fn.q45 (.pure (F_Dec 13))
theorem ga20_ok (m : GvP) (H : Lib46 m) : GamOK Tryz.prog (gv1 m) Ga20 := gam_add (ga19_ok m H) (by kernel_rfl) (Pure.q45 (ga19_ok m H) (Dec_ok 12 (by omega) (.inr rfl)))
noncomputable def Ga21 : Gam := Ga20.add Fn.q45 (.pure (F_Dec 14))
theorem ga21_ok (m : GvP) (H : Lib46 m) : GamOK Tryz.prog (gv1 m) Ga21 := gam_add (ga20_ok m H) (by kernel_rfl) (Pure.q45 (ga20_ok m H) (Dec_ok 13 (by omega) (.inr rfl)))
noncomputable def Ga22 : Gam := Ga21.add Fn.q45 (.pure (F_Dec 15))
theorem ga22_ok (m : GvP) (H : Lib46 m) : GamOK Tryz.prog (gv1 m) Ga22 := gam_add (ga21_ok m H) (by kernel_rfl) (Pure.q45 (ga21_ok m H) (Dec_ok 14 (by omega) (.inr rfl)))
noncomputable def Ga23 : Gam := Ga22.add Fn.tree_part_1 (.pure F_part1)
theorem ga23_ok (m : GvP) (H : Lib46 m) : GamOK Tryz.prog (gv1 m) Ga23 := gam_add (ga22_ok m H) (by kernel_rfl) (Pure.tree_part_1 (ga22_ok m H) (part1_ok _))
noncomputable def Ga24 : Gam := Ga23.add Fn.q54 (.gen (lookF (F_indexFunc Ga23)))
theorem ga24_ok (m : GvP) (H : Lib46 m) : GamOK Tryz.prog (gv1 m) Ga24 := gam_add (ga23_ok m H) (by kernel_rfl) (Look.q54 (ga23_ok m H) (indexFunc_ok _))
noncomputable def Ga25 : Gam := Ga24.add Fn.q51 (.gen (lookF (F_strIndexFunc Ga23)))
theorem ga25_ok (m : GvP) (H : Lib46 m) : GamOK Tryz.prog (gv1 m) Ga25 := gam_add (ga24_ok m H) (by kernel_rfl) (Look.q51 (ga24_ok m H) (strIndexFunc_ok _ _ rfl))
noncomputable def Ga26 : Gam := Ga25.add Fn.q42 (.gen (lookF (F_strContainsFunc Ga23)))
theorem ga26_ok (m : GvP) (H : Lib46 m) : GamOK Tryz.prog (gv1 m) Ga26 := gam_add (ga25_ok m H) (by kernel_rfl) (Look.q42 (ga25_ok m H) (strContainsFunc_ok _ _ rfl))
noncomputable def Ga27 : Gam := Ga26.add Fn.tree_part (.pure F_part)
theorem ga27_ok (m : GvP) (H : Lib46 m) : GamOK Tryz.prog (gv1 m) Ga27 := gam_add (ga26_ok m H) (by kernel_rfl) (Pure.tree_part (ga26_ok m H) (part_ok _ Ga23 rfl rfl))
noncomputable def Ga28 : Gam := Ga27.add Fn.tree_Path_1 (.pure F_Path1)
theorem ga28_ok (m : GvP) (H : Lib46 m) : GamOK Tryz.prog (gv1 m) Ga28 := gam_add (ga27_ok m H) (by kernel_rfl) (Pure.tree_Path_1 (ga27_ok m H) (Path1_ok _ rfl))
noncomputable def Ga29 : Gam := Ga28.add Fn.q15 (.gen (lookF (F_IndexFunc false 1 Ga28)))
theorem ga29_ok (m : GvP) (H : Lib46 m) : GamOK Tryz.prog (gv1 m) Ga29 := gam_add (ga28_ok m H) (by kernel_rfl) (Look.q15 (ga28_ok m H) (idxf_ok_slices_IndexFunc___string_string_ _))
noncomputable def Ga30 : Gam := Ga29.add Fn.q11 (.gen (lookF (F_ContainsFunc false 1 Ga28)))
theorem ga30_ok (m : GvP) (H : Lib46 m) : GamOK Tryz.prog (gv1 m) Ga30 := gam_add (ga29_ok m H) (by kernel_rfl) (Look.q11 (ga29_ok m H) (contf_ok_slices_ContainsFunc___string_string_ _ _ rfl))
noncomputable def Ga31 : Gam := Ga30.add Fn.tree_Path (.pure F_Path)
theorem ga31_ok (m : GvP) (H : Lib46 m) : GamOK Tryz.prog (gv1 m) Ga31 := gam_add (ga30_ok m H) (by kernel_rfl) (Pure.tree_Path (ga30_ok m H) (Path_ok _ Ga28 rfl rfl rfl))
noncomputable def Ga32 : Gam := Ga31.add Fn.tree_below (.pure F_below)
theorem ga32_ok (m : GvP) (H : Lib46 m) : GamOK Tryz.prog (gv1 m) Ga32 := gam_add (ga31_ok m H) (by kernel_rfl) (Pure.tree_below (ga31_ok m H) (below_ok rfl))
noncomputable def Ga33 : Gam := Ga32.add Fn.q85 (.gen (lookF F_chk1))
theorem ga33_ok (m : GvP) (H : Lib46 m) : GamOK Tryz.prog (gv1 m) Ga33 := gam_add (ga32_ok m H) (by kernel_rfl) (Look.q85 (ga32_ok m H) (chk1_ok rfl))
noncomputable def Ga34 : Gam := Ga33.add Fn.q12 (.gen (lookF (F_IndexFunc true 2 Ga33)))
theorem ga34_ok (m : GvP) (H : Lib46 m) : GamOK Tryz.prog (gv1 m) Ga34 := gam_add (ga33_ok m H) (by kernel_rfl) (Look.q12 (ga33_ok m H) (idxf_ok_slices_IndexFunc_api_Tree_api_File_ _))
noncomputable def Ga35 : Gam := Ga34.add Fn.q9 (.gen (lookF (F_ContainsFunc true 2 Ga33)))
theorem ga35_ok (m : GvP) (H : Lib46 m) : GamOK Tryz.prog (gv1 m) Ga35 := gam_add (ga34_ok m H) (by kernel_rfl) (Look.q9 (ga34_ok m H) (contf_ok_slices_ContainsFunc_api_Tree_api_File_ _ _ rfl))
noncomputable def Ga36 : Gam := Ga35.add Fn.tree_Check (.pure F_treeCheck)
theorem ga36_ok (m : GvP) (H : Lib46 m) : GamOK Tryz.prog (gv1 m) Ga36 := gam_add (ga35_ok m H) (by kernel_rfl) (Pure.tree_Check (ga35_ok m H) (treeCheck_ok (G0 := Ga33) rfl rfl rfl))
noncomputable def Ga37 : Gam := Ga36.add Fn.q58 (.pure F_below)
theorem ga37_ok (m : GvP) (H : Lib46 m) : GamOK Tryz.prog (gv1 m) Ga37 := gam_add (ga36_ok m H) (by kernel_rfl) (Pure.q58 (ga36_ok m H) (Below_ok))
noncomputable def Ga38 : Gam := Ga37.add Fn.q71 (.pure F_name)
theorem ga38_ok (m : GvP) (H : Lib46 m) : GamOK Tryz.prog (gv1 m) Ga38 := gam_add (ga37_ok m H) (by kernel_rfl) (Pure.q71 (ga37_ok m H) (name_ok _))
noncomputable def Ga39 : Gam := Ga38.add Fn.q60 (.pure F_Split03)
theorem ga39_ok (m : GvP) (H : Lib46 m) : GamOK Tryz.prog (gv1 m) Ga39 := gam_add (ga38_ok m H) (by kernel_rfl) (Pure.q60 (ga38_ok m H) (Split03_ok))
noncomputable def Ga40 : Gam := Ga39.add Fn.q70 (.pure F_Path)
theorem ga40_ok (m : GvP) (H : Lib46 m) : GamOK Tryz.prog (gv1 m) Ga40 := gam_add (ga39_ok m H) (by kernel_rfl) (Pure.q70 (ga39_ok m H) (Path03_ok rfl rfl))
noncomputable def Ga41 : Gam := Ga40.add Fn.q56 (.pure F_treeCheck)
theorem ga41_ok (m : GvP) (H : Lib46 m) : GamOK Tryz.prog (gv1 m) Ga41 := gam_add (ga40_ok m H) (by kernel_rfl) (Pure.q56 (ga40_ok m H) (treeCheck03_ok rfl rfl))
noncomputable def Ga42 : Gam := Ga41.add Fn.q59 (.pure F_Count)
theorem ga42_ok (m : GvP) (H : Lib46 m) : GamOK Tryz.prog (gv1 m) Ga42 := gam_add (ga41_ok m H) (by kernel_rfl) (Pure.q59 (ga41_ok m H) (Count_ok))
noncomputable def Ga43 : Gam := Ga42.add Fn.q38 (.gen (lookF F_count))
theorem ga43_ok (m : GvP) (H : Lib46 m) : GamOK Tryz.prog (gv1 m) Ga43 := gam_add (ga42_ok m H) (by kernel_rfl) (Look.q38 (ga42_ok m H) (count_ok))
noncomputable def Ga44 : Gam := Ga43.add Fn.q41 (.gen F_fail)
theorem ga44_ok (m : GvP) (H : Lib46 m) : GamOK Tryz.prog (gv1 m) Ga44 := gam_add (ga43_ok m H) (by kernel_rfl) (Gen.q41 (ga43_ok m H) (fail_ok))
noncomputable def Ga45 : Gam := Ga44.add Fn.q24 (.gen F_fail)
theorem ga45_ok (m : GvP) (H : Lib46 m) : GamOK Tryz.prog (gv1 m) Ga45 := gam_add (ga44_ok m H) (by kernel_rfl) (Gen.q24 (ga44_ok m H) (failR_ok))
noncomputable def Ga46 : Gam := Ga45.add Fn.q31 (.gen F_rdNum)
theorem ga46_ok (m : GvP) (H : Lib46 m) : GamOK Tryz.prog (gv1 m) Ga46 := gam_add (ga45_ok m H) (by kernel_rfl) (Gen.q31 (ga45_ok m H) (rdNum_ok rfl rfl))
noncomputable def Ga47 : Gam := Ga46.add Fn.q20 (.gen F_rdNum)
theorem ga47_ok (m : GvP) (H : Lib46 m) : GamOK Tryz.prog (gv1 m) Ga47 := gam_add (ga46_ok m H) (by kernel_rfl) (Gen.q20 (ga46_ok m H) (rdNumR_ok rfl rfl))
noncomputable def Ga48 : Gam := Ga47.add Fn.q40 (.gen F_rdText)
theorem ga48_ok (m : GvP) (H : Lib46 m) : GamOK Tryz.prog (gv1 m) Ga48 := gam_add (ga47_ok m H) (by kernel_rfl) (Gen.q40 (ga47_ok m H) (rdText_ok rfl rfl rfl))
noncomputable def Ga49 : Gam := Ga48.add Fn.q23 (.gen F_rdText)
theorem ga49_ok (m : GvP) (H : Lib46 m) : GamOK Tryz.prog (gv1 m) Ga49 := gam_add (ga48_ok m H) (by kernel_rfl) (Gen.q23 (ga48_ok m H) (rdTextR_ok rfl rfl))
noncomputable def Ga50 : Gam := Ga49.add Fn.q37 (.gen (lookF F_Close))
theorem ga50_ok (m : GvP) (H : Lib46 m) : GamOK Tryz.prog (gv1 m) Ga50 := gam_add (ga49_ok m H) (by kernel_rfl) (Look.q37 (ga49_ok m H) (Close_ok))
noncomputable def Ga51 : Gam := Ga50.add Fn.q21 (.gen (lookF F_Close))
theorem ga51_ok (m : GvP) (H : Lib46 m) : GamOK Tryz.prog (gv1 m) Ga51 := gam_add (ga50_ok m H) (by kernel_rfl) (Look.q21 (ga50_ok m H) (CloseR_ok))
noncomputable def Ga52 : Gam := Ga51.add Fn.q68 (.gen F_NewReader)
theorem ga52_ok (m : GvP) (H : Lib46 m) : GamOK Tryz.prog (gv1 m) Ga52 := gam_add (ga51_ok m H) (by kernel_rfl) (Gen.q68 (ga51_ok m H) (NewReader_ok))
noncomputable def Ga53 : Gam := Ga52.add Fn.q81 (.pure F_Number)
theorem ga53_ok (m : GvP) (H : Lib46 m) : GamOK Tryz.prog (gv1 m) Ga53 := gam_add (ga52_ok m H) (by kernel_rfl) (Pure.q81 (ga52_ok m H) (Number_ok rfl))
noncomputable def Ga54 : Gam := Ga53.add Fn.q48 (.pure F_Number)
theorem ga54_ok (m : GvP) (H : Lib46 m) : GamOK Tryz.prog (gv1 m) Ga54 := gam_add (ga53_ok m H) (by kernel_rfl) (Pure.q48 (ga53_ok m H) (NumberR_ok rfl))
noncomputable def Ga55 : Gam := Ga54.add Fn.codec_Text (.pure F_TextB)
theorem ga55_ok (m : GvP) (H : Lib46 m) : GamOK Tryz.prog (gv1 m) Ga55 := gam_add (ga54_ok m H) (by kernel_rfl) (Pure.codec_Text (ga54_ok m H) (TextB_ok rfl))
noncomputable def Ga56 : Gam := Ga55.add Fn.q66 (.pure F_TextB)
theorem ga56_ok (m : GvP) (H : Lib46 m) : GamOK Tryz.prog (gv1 m) Ga56 := gam_add (ga55_ok m H) (by kernel_rfl) (Pure.q66 (ga55_ok m H) (TextBR_ok rfl))
noncomputable def Ga57 : Gam := Ga56.add Fn.q82 (.gen F_files)
theorem ga57_ok (m : GvP) (H : Lib46 m) : GamOK Tryz.prog (gv1 m) Ga57 := gam_add (ga56_ok m H) (by kernel_rfl) (GenL.q82 (ga56_ok m H) (files_ok rfl rfl))
noncomputable def Ga58 : Gam := Ga57.add Fn.q47 (.gen F_unpack)
theorem ga58_ok (m : GvP) (H : Lib46 m) : GamOK Tryz.prog (gv1 m) Ga58 := gam_add (ga57_ok m H) (by kernel_rfl) (GenL.q47 (ga57_ok m H) (unpack_ok rfl rfl))
noncomputable def Ga59 : Gam := Ga58.add Fn.q76 (.pure F_Unpack)
theorem ga59_ok (m : GvP) (H : Lib46 m) : GamOK Tryz.prog (gv1 m) Ga59 := gam_add (ga58_ok m H) (by kernel_rfl) (Pure.q76 (ga58_ok m H) (Unpack_ok rfl rfl rfl rfl rfl))
noncomputable def Ga60 : Gam := Ga59.add Fn.q46 (.pure F_Unpack)
theorem ga60_ok (m : GvP) (H : Lib46 m) : GamOK Tryz.prog (gv1 m) Ga60 := gam_add (ga59_ok m H) (by kernel_rfl) (Pure.q46 (ga59_ok m H) (UnpackR_ok rfl rfl rfl rfl))
noncomputable def Ga61 : Gam := Ga60.add Fn.q69 (.pure F_Same03)
theorem ga61_ok (m : GvP) (H : Lib46 m) : GamOK Tryz.prog (gv1 m) Ga61 := gam_add (ga60_ok m H) (by kernel_rfl) (Pure.q69 (ga60_ok m H) (Same03_ok))
noncomputable def Ga62 : Gam := Ga61.add Fn.q65 (.pure F_SameB)
theorem ga62_ok (m : GvP) (H : Lib46 m) : GamOK Tryz.prog (gv1 m) Ga62 := gam_add (ga61_ok m H) (by kernel_rfl) (Pure.q65 (ga61_ok m H) (SameB_ok rfl))
noncomputable def Ga63 : Gam := Ga62.add Fn.q73 (.pure F_Few03)
theorem ga63_ok (m : GvP) (H : Lib46 m) : GamOK Tryz.prog (gv1 m) Ga63 := gam_add (ga62_ok m H) (by kernel_rfl) (Pure.q73 (ga62_ok m H) (Few03_ok))
noncomputable def Ga64 : Gam := Ga63.add Fn.q39 (.pure F_FewB)
theorem ga64_ok (m : GvP) (H : Lib46 m) : GamOK Tryz.prog (gv1 m) Ga64 := gam_add (ga63_ok m H) (by kernel_rfl) (Pure.q39 (ga63_ok m H) (FewB_ok rfl))
noncomputable def Ga65 : Gam := Ga64.add Fn.bundle_Pack (.pure F_Pack)
theorem ga65_ok (m : GvP) (H : Lib46 m) : GamOK Tryz.prog (gv1 m) Ga65 := gam_add (ga64_ok m H) (by kernel_rfl) (Pure.bundle_Pack (ga64_ok m H) (Pack_ok rfl rfl rfl))
noncomputable def Ga66 : Gam := Ga65.add Fn.q67 (.pure F_packT)
theorem ga66_ok (m : GvP) (H : Lib46 m) : GamOK Tryz.prog (gv1 m) Ga66 := gam_add (ga65_ok m H) (by kernel_rfl) (Pure.q67 (ga65_ok m H) (packT_ok rfl rfl))
noncomputable def Ga67 : Gam := Ga66.add Fn.q64 (.pure F_Pack)
theorem ga67_ok (m : GvP) (H : Lib46 m) : GamOK Tryz.prog (gv1 m) Ga67 := gam_add (ga66_ok m H) (by kernel_rfl) (Pure.q64 (ga66_ok m H) (PackR_ok rfl rfl rfl))
noncomputable def Ga68 : Gam := Ga67.add Fn.q55 (.pure F_awake)
theorem ga68_ok (m : GvP) (H : Lib46 m) : GamOK Tryz.prog (gv1 m) Ga68 := gam_add (ga67_ok m H) (by kernel_rfl) (H.awake)
noncomputable def Ga69 : Gam := Ga68.add Fn.q30 (.pure F_BundlePacks)
theorem ga69_ok (m : GvP) (H : Lib46 m) : GamOK Tryz.prog (gv1 m) Ga69 := gam_add (ga68_ok m H) (by kernel_rfl) (Pure.q30 (ga68_ok m H) (BundlePacks_ok rfl rfl rfl rfl rfl rfl))
noncomputable def Ga70 : Gam := Ga69.add Fn.q26 (.pure F_BundleUnpacks)
theorem ga70_ok (m : GvP) (H : Lib46 m) : GamOK Tryz.prog (gv1 m) Ga70 := gam_add (ga69_ok m H) (by kernel_rfl) (Pure.q26 (ga69_ok m H) (BundleUnpacks_ok rfl rfl rfl rfl rfl))
end Go.Proofs.YtaadifodgahnjaaGreatDoor
namespace Go.Proofs.YtaadifodgahnjaaGreatDoor
open Go.RowKit
theorem lib46 (m : GvP) : Lib46 m where
 split := (lb46 m).split
 itoa := (lb46 m).itoa
 idx := indexByte_pure (fun s c w => Tryz.strings_IndexByte s c w)
 hp := (lb46 m).hp
 clone := (lb46 m).clone
 awake := awake46 m
theorem packs_pure (m : GvP) : PureOK Tryz.prog (gv1 m) Fn.q30 F_BundlePacks := (ga70_ok m (lib46 m)).ok Fn.q30 (.pure F_BundlePacks) (by rfl)
theorem unpacks_pure (m : GvP) : PureOK Tryz.prog (gv1 m) Fn.q26 F_BundleUnpacks := (ga70_ok m (lib46 m)).ok Fn.q26 (.pure F_BundleUnpacks) (by rfl)
end Go.Proofs.YtaadifodgahnjaaGreatDoor
