/- The reference's lines and manifest walked. The reference's manifest walked. bundle.listed and its iterator walked. bundle.Manifest walked. bundle.Manifest walked: the whole. The law BundleManifests ov -/
import Derived.Test.YtopiadllkglamaaGreatDoorWDgB
import Derived.Test.YtopiadllkglamaaGreatDoorWRmB
import Derived.Test.YtopiadllkglamaaGreatDoorWRmA
import Derived.Test.YtopiadllkglamaaGreatDoorWRmD
import Derived.Test.YtopiadllkglamaaGreatDoorWAm10
import Derived.Test.YtopiadllkglamaaGreatDoorWPkA
namespace Go.Proofs.YtopiadllkglamaaGreatDoor
open Go.RowKit Go.IntWalk
theorem yx1 {w p it hx : Bs} (h : w.length + p.length + it.length + hx.length + 10 ≤ 1000000) : ∃ s1 s2 s3 s4 s5 s6 s7 : Bs,
  zc2 .add (.str w) (.str [32]) = some (.str s1) ∧ zc2 .add (.str s1) (.str p) = some (.str s2) ∧ zc2 .add (.str s2) (.str [32]) = some (.str s3) ∧ zc2 .add (.str s3) (.str it) = some (.str s4) ∧ zc2 .add (.str s4) (.str [32]) = some (.str s5) ∧ zc2 .add (.str s5) (.str hx) = some (.str s6) ∧ zc2 .add (.str s6) (.str [10]) = some (.str s7) ∧ s7 = (w ++ 32 :: (p ++ 32 :: (it ++ 32 :: hx))) ++ [10] :=
 ⟨w ++ [32],w ++ [32] ++ p,w ++ [32] ++ p ++ [32],w ++ [32] ++ p ++ [32] ++ it,w ++ [32] ++ p ++ [32] ++ it ++ [32],w ++ [32] ++ p ++ [32] ++ it ++ [32] ++ hx,w ++ [32] ++ p ++ [32] ++ it ++ [32] ++ hx ++ [10],
  zi7 (by unfold zj2; simp; omega),zi7 (by unfold zj2; simp; omega),zi7 (by unfold zj2; simp; omega),zi7 (by unfold zj2; simp; omega),zi7 (by unfold zj2; simp; omega),zi7 (by unfold zj2; simp; omega),zi7 (by unfold zj2; simp; omega),by simp⟩
def zA4 (f : Touch) : Bool := decide (f.path.length ≤ 1000) && decide (f.dig.length ≤ 100000)
theorem zF7 {f : Touch} (h : zA4 f = true) : f.path.length ≤ 1000 ∧ f.dig.length ≤ 100000 := by simpa [zA4] using h
def zo4 (t : List Touch) : Bool := decide (t.length ≤ 64) && t.all zA4
def yq9 : List AV → Option AV := F2 eStr (eSl xb7) eStr fun w t => if w.length ≤ 100 ∧ zo4 t = true then some (zi8 dsum w t) else none
theorem yG6 (ds : Bs → Bs) (o w : Bs) (f : Touch) (r : List Touch) : o ++ zi8 ds w (f :: r) = (o ++ (zM8 ds w f ++ [10])) ++ zi8 ds w r := by simp [zi8]
theorem ya2 (w : Bs) {f : Touch} (h1 : f.dig.length ≤ 100000) : (zM8 dsum w f).length ≤ w.length + f.path.length + 90 := by
 have h2 := ya6 6 f.dig.length (by omega)
 have h3 := zp5 (dsum f.dig)
 rw [zN1] at h3
 unfold zM8
 rw [zA7 (n := (f.dig.length : Int)) (by omega)]
 simp
 omega
theorem yy2 {d : Bs} (h : d.length ≤ 100000) : zB4 [.str d] = some (.str (hexE (dsum d))) := zw5 (A := eStr) (R := eStr) (f := fun d => if d.length ≤ 100000000 then some (hexE (dsum d)) else none) (x := d) (r := hexE (dsum d)) (if_pos (by omega))
theorem yN4 (G : Gam) (hD : G Fn.q38 = some (.pure (zR7 6))) (hH : G Fn.q63 = some (.pure zB4)) (w : Bs) (hw : w.length ≤ 100) (t : List Touch) (ht : t.length ≤ 64) (hf : ∀ f ∈ t,zA4 f = true) {ks : List MK} {Q : zc4} : ∀ (rest : List Touch) (i : Nat) (o : Bs),t.drop i = rest → i ≤ t.length → o.length ≤ 2000 * i →
  (∀ env,exM G .normal ks Q env [(0,.str w),(1,.sl (za1 t)),(4,.str []),(5,.str (o ++ zi8 dsum w rest)),(6,.int .i64 t.length)] []) →
  zi3 G [] Mc.q48_L0 0 (.blk 0 :: ks) Q [(0,.str w),(1,.sl (za1 t)),(4,.str []),(5,.str o),(6,.int .i64 i)] []
 | [],i,o,hd,hi,ho,hk => by
  have hi2 := zh4 hd
  have e : i = t.length := by omega
  subst e
  have := hk
  simp only [zi8,List.append_nil] at this
  have q : ltB (t.length : Int) (t.length : Int) = false := ze4.2 (by omega)
  refine zb3 (Mc.q48_L0.eq_1) ?_
  rw [za5 (n := 0) rfl]
  simp
  exact this _
 | f :: rest,i,o,hd,hi,ho,hk => by
  obtain ⟨hlt,hx,hxd⟩ := zf0 hd
  have q : ltB (i : Int) (t.length : Int) = true := zb8.2 (by omega)
  have hwi := zn1 (i := i) (by unfold big; omega)
  have r1 := zi0 hx
  obtain ⟨f1,f2⟩ := zF7 (hf f (List.mem_of_getElem? hx))
  have ia : ∀ h,zc9 2 h (.sl (za1 t)) (.int .i64 (i : Int)) = some (.fptr [.str f.path,.str f.dig] 0) := fun h => by simp [zc9,r1]
  have l1 : ∀ h,za8 1 false h (.fptr [.str f.path,.str f.dig] 0) = some (.str f.path) := fun h => by simp [za8,cut,zd8]
  have l2 : ∀ h,za8 1 false h (.fptr [.str f.path,.str f.dig] 1) = some (.str f.dig) := fun h => by simp [za8,cut,zd8]
  have hb := ya2 w f2
  have dl := ya6 6 f.dig.length (by omega)
  have hl := zp5 (dsum f.dig)
  rw [zN1] at hl
  have c1 : ∀ st h,opV G st h (.call Fn.q38) (some [.int .i64 (f.dig.length : Int)]) = some (.str (Lib.decDigits f.dig.length),h) := fun st h => zb5 hD (us := [.int .i64 (f.dig.length : Int)]) rfl (by simp only [zR7]; rw [if_pos ⟨by omega,by omega⟩]; simp) (.inl rfl)
  have c2 : ∀ st h,opV G st h (.call Fn.q63) (some [.str f.dig]) = some (.str (hexE (dsum f.dig)),h) := fun st h => zb5 hH (us := [.str f.dig]) rfl (yy2 f2) (.inl rfl)
  have hfb : zM8 dsum w f = w ++ 32 :: (f.path ++ 32 :: (Lib.decDigits f.dig.length ++ 32 :: hexE (dsum f.dig))) := by unfold zM8; rw [zA7 (by omega)]; simp
  rw [yG6] at hk
  obtain ⟨s1,s2,s3,s4,s5,s6,s7,a1,a2,a3,a4,a5,a6,a7,e7⟩ := yx1 (w := w) (p := f.path) (it := Lib.decDigits f.dig.length) (hx := hexE (dsum f.dig)) (by omega)
  rw [← hfb] at e7
  have a8 : zc2 .add (.str o) (.str s7) = some (.str (o ++ s7)) := zi7 (by rw [e7]; unfold zj2; simp; omega)
  rw [← e7] at hk
  have ih := yN4 G hD hH w hw t ht hf rest (i + 1) (o ++ s7) hxd (by omega) (by rw [e7]; simp; omega) hk
  clear hk e7 hfb
  generalize hexE (dsum f.dig) = x at c2 a6
  have ln : ∀ h,ze1 h 1 (.sl (za1 t)) = some (.int .i64 (t.length : Int)) := fun h => by simp [ze1,za1]
  have ls : ∀ h (s : Bs),ze1 h 0 (.str s) = some (.int .i64 (s.length : Int)) := fun h s => rfl
  generalize za1 t = R at ia ih ln ⊢
  generalize o ++ s7 = o2 at a8 ih
  refine zb3 (Mc.q48_L0.eq_1) ?_
  rw [za5 (n := 0) rfl]
  simp [q,ln,ls,ia,l1,l2,c1,c2,a1,a2,a3,a4,a5,a6,a7,a8,hwi,-za8,-ze1]
  refine ze8 ?_
  rw [za5 (n := 0) rfl]
  simpa using ih
theorem xx8 {G : Gam} (hD : G Fn.q38 = some (.pure (zR7 6))) (hH : G Fn.q63 = some (.pure zB4)) : ∀ args r,yq9 args = some r → wpM G Mc.q48 (zb0 Rs.q48 r) [] (za2 Ks.q48 args) [] := xs3 fun w t r h => by
 split at h
 ·rename_i hb
  injection h with h; subst h
  obtain ⟨b1,b2⟩ := hb
  unfold zo4 at b2
  simp only [Bool.and_eq_true,decide_eq_true_eq,List.all_eq_true] at b2
  have l0 := fun ks Q hk => yN4 G hD hH w b1 t b2.1 b2.2 (ks := ks) (Q := Q) t 0 [] rfl (by omega) (by simp) hk
  rw [zc8,xm4]
  simp only [List.nil_append] at l0
  generalize zi8 dsum w t = o at l0
  generalize za1 t = R at l0
  simp [Mc.q48,Ks.q48,za2,eStr]
  refine l0 _ _ (fun env => ?_)
  simp [Rs.q48]
 ·cases h
end Go.Proofs.YtopiadllkglamaaGreatDoor
namespace Go.Proofs.YtopiadllkglamaaGreatDoor
open Go.RowKit Go.IntWalk
def yc9 : List AV → Option AV
 | [.str o,.str hx,.sl a,.sl b] => match zs1 zl7 a,zs1 zl7 b with
  | some p,some s => if o.length ≤ 1000 ∧ hx.length ≤ 1000 ∧ zo4 p = true ∧ zo4 s = true then some (.tup [.str (manE dsum o hx p s).1,.int .i64 (manE dsum o hx p s).2]) else none
  | _,_ => none
 | _ => none
theorem zq6 {t : List Touch} (h : zo4 t = true) : t.length ≤ 64 ∧ ∀ f ∈ t,zA4 f = true := by
 unfold zo4 at h
 simpa only [Bool.and_eq_true,decide_eq_true_eq,List.all_eq_true] using h
theorem zz1 {w : Bs} (hw : w.length ≤ 100) : ∀ {t : List Touch},(∀ f ∈ t,zA4 f = true) → (zi8 dsum w t).length ≤ 2000 * t.length
 | [],_ => by simp [zi8]
 | f :: r,h => by
  have ih := zz1 hw (t := r) fun g hg => h g (by simp [hg])
  obtain ⟨f1,f2⟩ := zF7 (h f (by simp))
  have := ya2 w f2
  simp only [zi8,List.length_append,List.length_cons]
  omega
theorem yp1 {t : List Touch} (h : zo4 t = true) : zj9 [.sl (za1 t)] = some (.int .i64 (zr8 t)) := by
 simp only [zj9,zh1]
 rw [if_pos]
 refine List.all_eq_true.2 fun f hf => ?_
 have := (zF7 ((zq6 h).2 f hf)).1
 simp; omega
theorem yx0 {w : Bs} {t : List Touch} (hw : w.length ≤ 100) (h : zo4 t = true) : yq9 [.str w,.sl (za1 t)] = some (.str (zi8 dsum w t)) :=
 yj7 (A := eStr) (B := eSl xb7) (R := eStr) (f := fun w t => if w.length ≤ 100 ∧ zo4 t = true then some (zi8 dsum w t) else none) (x := w) (y := t) (if_pos ⟨hw,h⟩)
theorem xx2 {o hx a b : Bs} (h : o.length + hx.length + a.length + b.length ≤ 1000000) : ∃ s1 s2 s3 s4 s5 s6 : Bs,
  zc2 .add (.str [111,117,116,112,117,116,32]) (.str o) = some (.str s1) ∧ zc2 .add (.str s1) (.str [10,98,105,110,97,114,121,32]) = some (.str s2) ∧ zc2 .add (.str s2) (.str hx) = some (.str s3) ∧ zc2 .add (.str s3) (.str [10]) = some (.str s4) ∧ zc2 .add (.str s4) (.str a) = some (.str s5) ∧ zc2 .add (.str s5) (.str b) = some (.str s6) ∧ s6 = (zm3 ++ 32 :: o) ++ 10 :: ((zm4 ++ 32 :: hx) ++ 10 :: (a ++ b)) :=
 ⟨[111,117,116,112,117,116,32] ++ o,[111,117,116,112,117,116,32] ++ o ++ [10,98,105,110,97,114,121,32],[111,117,116,112,117,116,32] ++ o ++ [10,98,105,110,97,114,121,32] ++ hx,[111,117,116,112,117,116,32] ++ o ++ [10,98,105,110,97,114,121,32] ++ hx ++ [10],[111,117,116,112,117,116,32] ++ o ++ [10,98,105,110,97,114,121,32] ++ hx ++ [10] ++ a,[111,117,116,112,117,116,32] ++ o ++ [10,98,105,110,97,114,121,32] ++ hx ++ [10] ++ a ++ b,
  zi7 (by unfold zj2; simp; omega),zi7 (by unfold zj2; simp; omega),zi7 (by unfold zj2; simp; omega),zi7 (by unfold zj2; simp; omega),zi7 (by unfold zj2; simp; omega),zi7 (by unfold zj2; simp; omega),by simp [zm3,zm4]⟩
theorem yM1 {o : Bs} (h : o.length ≤ 1000) : zz4 [.str o] = some (.int .i64 (if zf1 o then 0 else 2)) :=
 zw5 (A := eStr) (R := eInt) (f := fun s => if s.length < 4294967281 then some (if zf1 s then 0 else 2) else none) (x := o) (r := if zf1 o then 0 else 2) (if_pos (by omega))
theorem xF4 {s : Bs} (h : s.length ≤ 1000) : zl9 [.str s] = some (.tup [.str (zd9 s).1,.int .i64 (zd9 s).2]) := by
 simp only [zl9]; rw [if_pos (by unfold big; omega)]
theorem xK9 {G : Gam} (hP : G Fn.q58 = some (.pure zz4)) (hD : G Fn.q47 = some (.pure zl9)) (hC : G Fn.q46 = some (.pure zj9)) (hL : G Fn.q48 = some (.pure yq9)) : ∀ args r,yc9 args = some r → wpM G Mc.q35 (zb0 Rs.q35 r) [] (za2 Ks.q35 args) [] := by
 intro args r hF
 unfold yc9 at hF
 split at hF
 ·rename_i o hx ra rb
  split at hF
  ·rename_i p s hp hs
   split at hF
   ·rename_i hc
    obtain ⟨h1,h2,h3,h4⟩ := hc
    injection hF with hF; subst hF
    obtain rfl : ra = za1 p := zl2 (fun r x => zh7) hp
    obtain rfl : rb = za1 s := zl2 (fun r x => zh7) hs
    have cP : ∀ st h,opV G st h (.call Fn.q58) (some [.str o]) = some (.int .i64 (if zf1 o then 0 else 2),h) := fun st h => zb5 hP (us := [.str o]) rfl (yM1 h1) (.inl rfl)
    have cD : ∀ st h,opV G st h (.call Fn.q47) (some [.str hx]) = some (.tup [.str (zd9 hx).1,.int .i64 (zd9 hx).2],h) := fun st h => zb5 hD (us := [.str hx]) rfl (xF4 h2) (.inl rfl)
    have cA : ∀ st h,opV G st h (.call Fn.q46) (some [.sl (za1 p)]) = some (.int .i64 (zr8 p),h) := fun st h => zb5 hC (us := [.sl (za1 p)]) rfl (yp1 h3) (.inl rfl)
    have cB : ∀ st h,opV G st h (.call Fn.q46) (some [.sl (za1 s)]) = some (.int .i64 (zr8 s),h) := fun st h => zb5 hC (us := [.sl (za1 s)]) rfl (yp1 h4) (.inl rfl)
    have lA : ∀ st h,opV G st h (.call Fn.q48) (some [.str [112,97,112,101,114],.sl (za1 p)]) = some (.str (zi8 dsum ze9 p),h) := fun st h => zb5 hL (us := [.str ze9,.sl (za1 p)]) rfl (yx0 (by decide) h3) (.inl rfl)
    have lB : ∀ st h,opV G st h (.call Fn.q48) (some [.str [115,111,117,114,99,101],.sl (za1 s)]) = some (.str (zi8 dsum zd1 s),h) := fun st h => zb5 hL (us := [.str zd1,.sl (za1 s)]) rfl (yx0 (by decide) h4) (.inl rfl)
    obtain ⟨p1,p2⟩ := zq6 h3
    obtain ⟨q1,q2⟩ := zq6 h4
    have fa := zz1 (w := ze9) (by decide) p2
    have fb := zz1 (w := zd1) (by decide) q2
    obtain ⟨s1,s2,s3,s4,s5,s6,a1,a2,a3,a4,a5,a6,e6⟩ := xx2 (o := o) (hx := hx) (a := zi8 dsum ze9 p) (b := zi8 dsum zd1 s) (by omega)
    have hM : s6 = manT dsum o hx p s := e6
    rw [zc8]
    unfold manE
    rw [← hM]
    clear hM e6 fa fb
    generalize zi8 dsum ze9 p = fA at lA a5
    generalize zi8 dsum zd1 s = fB at lB a6
    generalize za1 p = R1 at cA lA ⊢
    generalize za1 s = R2 at cB lB ⊢
    generalize (zd9 hx).1 = dx at cD
    generalize (zd9 hx).2 = dn at cD ⊢
    generalize zr8 p = t1 at cA ⊢
    generalize zr8 s = t2 at cB ⊢
    by_cases c1 : zf1 o = false
    ·rw [if_pos c1]
     have q : eqB 2 0 = false := rfl
     simp [c1] at cP
     simp [Mc.q35,Ks.q35,za2,cP,q,zb0,Rs.q35]
    ·rw [if_neg c1]
     have c1' : zf1 o = true := by simpa using c1
     simp [c1'] at cP
     have q0 : eqB 0 0 = true := rfl
     by_cases c2 : dn ≠ 0
     ·rw [if_pos c2]
      have q : eqB dn 0 = false := zj4.2 c2
      simp [Mc.q35,Ks.q35,za2,cP,cD,q,zH1,zb0,Rs.q35]
     ·rw [if_neg c2]
      have c2' : dn = 0 := by simpa using c2
      subst c2'
      by_cases c3 : t1 = 0
      ·subst c3
       by_cases c4 : t2 = 0
       ·subst c4
        rw [if_neg (by simp)]
        simp [Mc.q35,Ks.q35,za2,cP,cD,cA,cB,lA,lB,a1,a2,a3,a4,a5,a6,zH1,zb0,Rs.q35]
       ·rw [if_pos (.inr c4)]
        have q : eqB t2 0 = false := zj4.2 c4
        simp [Mc.q35,Ks.q35,za2,cP,cD,cA,cB,q,zH1,zb0,Rs.q35]
      ·rw [if_pos (.inl c3)]
       have q : eqB t1 0 = false := zj4.2 c3
       simp [Mc.q35,Ks.q35,za2,cP,cD,cA,q,zH1,zb0,Rs.q35]
   ·cases hF
  ·cases hF
 ·cases hF
end Go.Proofs.YtopiadllkglamaaGreatDoor
namespace Go.Proofs.YtopiadllkglamaaGreatDoor
open Go.RowKit Go.IntWalk
def itXs (a b : List Touch) : List (Bs × Touch) := a.map (fun f => (ze9,f)) ++ b.map (fun f => (zd1,f))
def itAt (xs : List (Bs × Touch)) (j : Nat) (h : Heap) : Option (List AV) × Heap := match xs[j]? with
 | some x => (some [.str x.1,.agg x.2.row],h ++ [.cells x.2.row])
 | none => (none,h)
open Classical in
noncomputable def F_It : ItF := fun caps h0 j h => match caps with
 | [.ptr l 0,.ptr m 0] => match h0[l]?,h0[m]? with
  | some (.cells [.sl A]),some (.cells [.sl B]) => match zs1 zl7 A,zs1 zl7 B with
   | some a,some b => if h[m]? = some (.cells [.sl B]) ∧ a.length ≤ 1000 ∧ b.length ≤ 1000 then some (itAt (itXs a b) j h) else none
   | _,_ => none
  | _,_ => none
 | _ => none
theorem xr8 {caps : List AV} {h0 h : Heap} {j : Nat} {r : Option (List AV) × Heap} (he : F_It caps h0 j h = some r) : ∃ l m a b,caps = [.ptr l 0,.ptr m 0] ∧ h0[l]? = some (.cells [.sl (za1 a)]) ∧ h0[m]? = some (.cells [.sl (za1 b)]) ∧ h[m]? = some (.cells [.sl (za1 b)]) ∧ a.length ≤ 1000 ∧ b.length ≤ 1000 ∧ r = itAt (itXs a b) j h := by
 unfold F_It at he
 split at he
 ·rename_i l m
  split at he
  ·rename_i A B h1 h2
   split at he
   ·rename_i a b ha hb
    split at he
    ·rename_i hc
     injection he with he
     obtain rfl : A = za1 a := zl2 (fun r x => zh7) ha
     obtain rfl : B = za1 b := zl2 (fun r x => zh7) hb
     exact ⟨l,m,a,b,rfl,h1,h2,hc.1,hc.2.1,hc.2.2,he.symm⟩
    ·cases he
   ·cases he
  ·cases he
 ·cases he
theorem xC5 {h0 h : Heap} {l m j : Nat} {a b : List Touch} (h1 : h0[l]? = some (.cells [.sl (za1 a)])) (h2 : h0[m]? = some (.cells [.sl (za1 b)])) (h3 : h[m]? = some (.cells [.sl (za1 b)])) (la : a.length ≤ 1000) (lb : b.length ≤ 1000) : F_It [.ptr l 0,.ptr m 0] h0 j h = some (itAt (itXs a b) j h) := by
 simp only [F_It,h1,h2,zh1]
 rw [if_pos ⟨h3,la,lb⟩]
theorem yE5 {Y : List AV → Heap → Option (AV × Heap)} {h0 h h' : Heap} {l m N j : Nat} {a b : List Touch} (h1 : h0[l]? = some (.cells [.sl (za1 a)])) (h2 : h0[m]? = some (.cells [.sl (za1 b)])) (hr : zC2 (F_It [.ptr l 0,.ptr m 0] h0) Y N j h h') : h[m]? = some (.cells [.sl (za1 b)]) ∧ a.length ≤ 1000 ∧ b.length ≤ 1000 := by
 have key : ∀ r,F_It [.ptr l 0,.ptr m 0] h0 j h = some r → h[m]? = some (.cells [.sl (za1 b)]) ∧ a.length ≤ 1000 ∧ b.length ≤ 1000 := fun r he => by
  obtain ⟨l',m',a',b',e1,e2,e3,e4,e5,e6,_⟩ := xr8 he
  injection e1 with e1 e7; injection e1 with e1 _; subst e1
  injection e7 with e7 _; injection e7 with e7 _; subst e7
  rw [h1] at e2
  rw [h2] at e3
  injection e2 with e2; injection e2 with _ e2; injection e2 with e2 _; injection e2 with e2
  injection e3 with e3; injection e3 with _ e3; injection e3 with e3 _; injection e3 with e3
  have ea := zh1 a
  rw [e2,zh1] at ea
  have eb := zh1 b
  rw [e3,zh1] at eb
  injection ea with ea; injection eb with eb
  subst ea eb
  exact ⟨e4,e5,e6⟩
 cases N with
 | zero => exact hr.elim
 | succ N =>
  simp only [zC2] at hr
  split at hr
  ·exact hr.elim
  ·rename_i h3 hF; exact key _ hF
  ·rename_i x h3 hF; exact key _ hF
theorem xs_a {a b : List Touch} {j : Nat} {f : Touch} (h : a[j]? = some f) : (itXs a b)[j]? = some (ze9,f) := by
 have hl := (List.getElem?_eq_some_iff.1 h).1
 unfold itXs
 rw [List.getElem?_append_left (by simpa using hl),List.getElem?_map,h]; rfl
theorem xs_b {a b : List Touch} {j : Nat} {f : Touch} (h : b[j]? = some f) : (itXs a b)[a.length + j]? = some (zd1,f) := by
 unfold itXs
 rw [List.getElem?_append_right (by simp),List.length_map,Nat.add_sub_cancel_left,List.getElem?_map,h]; rfl
theorem xV4 {a b : List Touch} : (itXs a b)[a.length + b.length]? = none := by
 unfold itXs; simp
abbrev itfr (k l m : Nat) (A x9 x10 x19 x20 x21 : AV) : List (Nat × AV) := [(0,.yld k),(1,.ptr l 0),(2,.ptr m 0),(5,.junk),(7,.junk),(8,A),(9,x9),(10,x10),(19,x19),(20,x20),(21,x21)]
theorem yZ6 {h : Heap} {f : Touch} : stAV 2 (h ++ [.cells [.str [],.str []]]) (.ptr h.length 0) (.agg [.str f.path,.str f.dig]) = some (h ++ [.cells [.str f.path,.str f.dig]]) := by
 have := zC1 (h := h ++ [Blk.cells [.str [],.str []]]) (l := h.length) (n := 2) (vs := [.str [],.str []]) (us := [.str f.path,.str f.dig]) (by simp) rfl rfl (by omega) rfl
 simpa [-zd5] using this
theorem xE4 {h : Heap} {f : Touch} : za8 2 true (h ++ [.cells [.str f.path,.str f.dig]]) (.ptr h.length 0) = some (.agg [.str f.path,.str f.dig]) :=
 xe9 (l := h.length) (vs := [.str f.path,.str f.dig]) (by simp) rfl
theorem yN8 {G : Gam} {ks : List MK} {Q : zc4} {fr : List (Nat × AV)} {h : Heap} {d : List Nat} {a : MC} {n : Nat} (hq : zi3 G d a n ks Q (zc0 d fr) h) (hd : d.contains 999999 = true := by rfl) : zi3 G d a n ks Q fr h := by
 obtain ⟨N,hr⟩ := hq
 refine ⟨N,?_⟩
 cases N with
 | zero => exact hr
 | succ N =>
  simp only [zg5] at hr ⊢
  simp only [zy5,hd,if_true] at hr ⊢
  rw [zD2] at hr
  exact hr
theorem wa0 (G : Gam) (Y : Nat → List AV → Heap → Option (AV × Heap)) (k l m : Nat) (a b : List Touch) (h0 h' : Heap) (e1 : h0[l]? = some (.cells [.sl (za1 a)])) (e2 : h0[m]? = some (.cells [.sl (za1 b)])) (A x9 x10 : AV) (n : Nat) : ∀ (N j : Nat) (h : Heap),j ≤ b.length → zC2 (F_It [.ptr l 0,.ptr m 0] h0) (Y k) N (a.length + j) h h' →
  zi3 { G with y := Y } [7,999999] Mc.q61_L1 n [.blk 2] (itQ h') (itfr k l m A x9 x10 (.sl (za1 b)) (.int .i64 b.length) (.int .i64 j)) h
 | 0,_,_,_,hr => hr.elim
 | N + 1,j,h,hj,hr0 => by
  obtain ⟨em,la,lb⟩ := yE5 e1 e2 hr0
  have hr := hr0
  simp only [zC2,xC5 e1 e2 em la lb] at hr
  refine yN9 (Mc.q61_L1.eq_1) ?_
  by_cases hlt : j < b.length
  ·obtain ⟨f,hf⟩ : ∃ f,b[j]? = some f := ⟨_,List.getElem?_eq_getElem hlt⟩
   simp only [itAt,xs_b hf] at hr
   have q : ltB (j : Int) (b.length : Int) = true := zb8.2 (by omega)
   have hw := zn1 (i := j) (by unfold big; omega)
   have r1 := zi0 hf
   have ia : ∀ h,zc9 2 h (.sl (za1 b)) (.int .i64 (j : Int)) = some (.fptr [.str f.path,.str f.dig] 0) := fun h => by simp [zc9,r1]
   have l1 : ∀ h,za8 2 true h (.fptr [.str f.path,.str f.dig] 0) = some (.agg [.str f.path,.str f.dig]) := fun h => by simp [za8,cut,zd8]
   have sn := yZ6 (h := h) (f := f)
   have ln := xE4 (h := h) (f := f)
   have hrow : f.row = [.str f.path,.str f.dig] := rfl
   rw [hrow] at hr
   generalize h ++ [Blk.cells [.str f.path,.str f.dig]] = h1 at hr sn ln
   have hy : opV { G with y := Y } false h1 .callv (some [.yld k,.str [115,111,117,114,99,101],.agg [.str f.path,.str f.dig]]) = Y k [.str zd1,.agg [.str f.path,.str f.dig]] h1 := xD9
   split at hr
   ·rename_i h2 hY
    rw [hY] at hy
    have ih := wa0 G Y k l m a b h0 h' e1 e2 A x9 x10 n N (j + 1) h2 (by omega) (by rw [show a.length + (j + 1) = a.length + j + 1 by omega]; exact hr)
    simp [q,ia,l1,sn,ln,hy,hw,-za8,-zd5]
    refine yN8 ?_
    simpa using ih
   ·rename_i h2 hY
    rw [hY] at hy
    subst hr
    simp [q,ia,l1,sn,ln,hy,itQ,-za8,-zd5]
   ·exact hr.elim
  ·have hje : j = b.length := by omega
   subst hje
   simp only [itAt,xV4] at hr
   subst hr
   have q : ltB (b.length : Int) (b.length : Int) = false := ze4.2 (by omega)
   simp [itQ]
theorem wa1 (G : Gam) (Y : Nat → List AV → Heap → Option (AV × Heap)) (k l m : Nat) (a b : List Touch) (h0 h' : Heap) (e1 : h0[l]? = some (.cells [.sl (za1 a)])) (e2 : h0[m]? = some (.cells [.sl (za1 b)])) (n : Nat) (ks : List MK)
  (hk : ∀ N h env,zC2 (F_It [.ptr l 0,.ptr m 0] h0) (Y k) N a.length h h' → exM { G with y := Y } .normal ks (itQ h') env (itfr k l m (.sl (za1 a)) (.int .i64 a.length) (.int .i64 a.length) .junk .junk .junk) h) : ∀ (N j : Nat) (h : Heap),j ≤ a.length → zC2 (F_It [.ptr l 0,.ptr m 0] h0) (Y k) N j h h' →
  zi3 { G with y := Y } [5,999999] Mc.q61_L0 n (.blk 0 :: ks) (itQ h') (itfr k l m (.sl (za1 a)) (.int .i64 a.length) (.int .i64 j) .junk .junk .junk) h
 | 0,_,_,_,hr => hr.elim
 | N + 1,j,h,hj,hr0 => by
  obtain ⟨em,la,lb⟩ := yE5 e1 e2 hr0
  have hr := hr0
  simp only [zC2,xC5 e1 e2 em la lb] at hr
  refine yN9 (Mc.q61_L0.eq_1) ?_
  by_cases hlt : j < a.length
  ·obtain ⟨f,hf⟩ : ∃ f,a[j]? = some f := ⟨_,List.getElem?_eq_getElem hlt⟩
   simp only [itAt,xs_a hf] at hr
   have q : ltB (j : Int) (a.length : Int) = true := zb8.2 (by omega)
   have hw := zn1 (i := j) (by unfold big; omega)
   have r1 := zi0 hf
   have ia : ∀ h,zc9 2 h (.sl (za1 a)) (.int .i64 (j : Int)) = some (.fptr [.str f.path,.str f.dig] 0) := fun h => by simp [zc9,r1]
   have l1 : ∀ h,za8 2 true h (.fptr [.str f.path,.str f.dig] 0) = some (.agg [.str f.path,.str f.dig]) := fun h => by simp [za8,cut,zd8]
   have sn := yZ6 (h := h) (f := f)
   have ln := xE4 (h := h) (f := f)
   have hrow : f.row = [.str f.path,.str f.dig] := rfl
   rw [hrow] at hr
   generalize h ++ [Blk.cells [.str f.path,.str f.dig]] = h1 at hr sn ln
   have hy : opV { G with y := Y } false h1 .callv (some [.yld k,.str [112,97,112,101,114],.agg [.str f.path,.str f.dig]]) = Y k [.str ze9,.agg [.str f.path,.str f.dig]] h1 := xD9
   split at hr
   ·rename_i h2 hY
    rw [hY] at hy
    have ih := wa1 G Y k l m a b h0 h' e1 e2 n ks hk N (j + 1) h2 (by omega) hr
    simp [q,ia,l1,sn,ln,hy,hw,-za8,-zd5]
    refine yN8 ?_
    simpa using ih
   ·rename_i h2 hY
    rw [hY] at hy
    subst hr
    simp [q,ia,l1,sn,ln,hy,itQ,-za8,-zd5]
   ·exact hr.elim
  ·have hje : j = a.length := by omega
   subst hje
   have hk' := fun env => hk (N + 1) h env hr0
   simp
   simpa using hk' _
theorem It_ok (G : Gam) : ∀ (Y : Nat → List AV → Heap → Option (AV × Heap)) (caps : List AV) (k N : Nat) (h h' : Heap),zC2 (F_It caps h) (Y k) N 0 h h' → wpM { G with y := Y } Mc.q61 (itQ h') [] (za2 Ks.q61 (.yld k :: caps)) h := by
 intro Y caps k N h h' hr
 obtain ⟨l,m,a,b,rfl,e1,e2⟩ : ∃ l m a b,caps = [.ptr l 0,.ptr m 0] ∧ h[l]? = some (.cells [.sl (za1 a)]) ∧ h[m]? = some (.cells [.sl (za1 b)]) := by
  cases N with
  | zero => exact hr.elim
  | succ N =>
   simp only [zC2] at hr
   split at hr
   ·exact hr.elim
   ·rename_i h1 hF
    obtain ⟨l,m,a,b,g1,g2,g3,_⟩ := xr8 hF
    exact ⟨l,m,a,b,g1,g2,g3⟩
   ·rename_i x h1 hF
    obtain ⟨l,m,a,b,g1,g2,g3,_⟩ := xr8 hF
    exact ⟨l,m,a,b,g1,g2,g3⟩
 have ld1 : za8 1 false h (.ptr l 0) = some (.sl (za1 a)) := yN6 e1
 have l0 := fun ks hk => wa1 G Y k l m a b h h' e1 e2 h.length ks hk N 0 h (by omega) hr
 rw [zc8]
 simp [Mc.q61,za2,Ks.q61,ld1,-za8]
 refine l0 _ (fun M h2 env hr2 => ?_)
 obtain ⟨em,la,lb⟩ := yE5 e1 e2 hr2
 have ld2 : za8 1 false h2 (.ptr m 0) = some (.sl (za1 b)) := yN6 em
 have l1 := wa0 G Y k l m a b h h' e1 e2 (.sl (za1 a)) (.int .i64 a.length) (.int .i64 a.length) h2.length M 0 h2 (by omega) hr2
 simp [ld2,-za8]
 simpa using l1
def zV7 (args : List AV) (h : Heap) : Option (AV × Heap) :=
 match args with
 | [.sl a,.sl b] => some (.fn Fn.q61 [.ptr h.length 0,.ptr (h.length + 1) 0],h ++ [.cells [.sl a]] ++ [.cells [.sl b]])
 | _ => none
theorem xe4 (G : Gam) : ∀ args h r h',zV7 args h = some (r,h') → wpM G Mc.q69 (genQ Rs.q69 r h') [] (za2 Ks.q69 args) h := by
 intro args h r h' he
 unfold zV7 at he
 split at he
 ·rename_i a b
  injection he with he; injection he with h1 h2; subst h1 h2
  rw [zc8]
  simp [Mc.q69,za2,Ks.q69,genQ,Rs.q69]
 ·cases he
end Go.Proofs.YtopiadllkglamaaGreatDoor
namespace Go.Proofs.YtopiadllkglamaaGreatDoor
open Go.RowKit Go.IntWalk
def zp7 : List (Bs × Touch) → Bs
 | [] => []
 | x :: r => zM8 dsum x.1 x.2 ++ 10 :: zp7 r
theorem ya0 : ∀ a b : List (Bs × Touch),zp7 (a ++ b) = zp7 a ++ zp7 b
 | [],b => rfl
 | x :: a,b => by simp [zp7,ya0 a b]
theorem zJ6 (w : Bs) : ∀ a : List Touch,zp7 (a.map fun f => (w,f)) = zi8 dsum w a
 | [] => rfl
 | f :: a => by simp [zp7,zi8,zJ6 w a]
theorem yV8 (a b : List Touch) : zp7 (itXs a b) = zi8 dsum ze9 a ++ zi8 dsum zd1 b := by
 unfold itXs; rw [ya0,zJ6,zJ6]
abbrev hbM (T : Bs) (A B : List (List AV)) (b : Blk) (cs : Heap) : Heap := [.cells [.str T],.cells [.sl A],.cells [.sl B],b] ++ cs
abbrev mgfr (o hx : Bs) (A B : AV) (x11 : AV) : List (Nat × AV) := [(0,.str o),(1,.str hx),(2,A),(3,B),(8,.str []),(9,.int .i64 0),(11,x11),(12,.ptr 0 0),(13,.junk),(14,.junk),(44,.junk),(45,.junk)]
theorem xZ2 (G : Gam) (hI : G Fn.q75 = some (.pure zE9)) (hH : G Fn.q37 = some (.pure zB4)) (o hx : Bs) (A B x11 : AV) (a b : List Touch) (la : a.length ≤ 1000) (lb : b.length ≤ 1000) (hok : ∀ x ∈ itXs a b,x.1.length ≤ 100 ∧ zA4 x.2 = true) (hlen : (itXs a b).length ≤ 128) (h0 : Heap) (h1 : h0[1]? = some (.cells [.sl (za1 a)])) (h2 : h0[2]? = some (.cells [.sl (za1 b)])) (Q : MX → Heap → Prop) : ∀ (k j : Nat) (T : Bs) (cs : Heap),j + k = (itXs a b).length → T.length ≤ 5000 + 2000 * j →
  (∀ cs',Q .normal (hbM (T ++ zp7 ((itXs a b).drop j)) (za1 a) (za1 b) .dead cs')) →
  RgM G (F_It [.ptr 1 0,.ptr 2 0] h0) Mc.q57_A0 Mc.q57_L0 [44,45] (mgfr o hx A B x11) 3 j (hbM T (za1 a) (za1 b) (.lp false .normal) cs) Q
 | 0,j,T,cs,hj,hT,hk => by
  have e : (itXs a b).drop j = [] := List.drop_eq_nil_iff.2 (by omega)
  have en : (itXs a b)[j]? = none := List.getElem?_eq_none (by omega)
  refine xJ4 (h1 := hbM T (za1 a) (za1 b) (.lp false .normal) cs) ?_ rfl ?_
  ·rw [xC5 h1 h2 rfl la lb]; simp only [itAt,en]
  ·have := hk cs
   rw [e] at this
   simp only [zp7,List.append_nil] at this
   exact this
 | k + 1,j,T,cs,hj,hT,hk => by
  have hjl : j < (itXs a b).length := by omega
  obtain ⟨x,hx0,hxd⟩ : ∃ x,(itXs a b)[j]? = some x ∧ (itXs a b).drop j = x :: (itXs a b).drop (j + 1) := ⟨_,List.getElem?_eq_getElem hjl,List.drop_eq_getElem_cons hjl⟩
  obtain ⟨w,f⟩ := x
  obtain ⟨hw,hf⟩ := hok _ (List.mem_of_getElem? hx0)
  simp only at hw hf
  obtain ⟨f1,f2⟩ := zF7 hf
  refine xu7 (h1 := hbM T (za1 a) (za1 b) (.lp false .normal) (cs ++ [.cells f.row])) (args := [.str w,.agg f.row]) ?_ ?_
  ·rw [xC5 h1 h2 rfl la lb]; simp only [itAt,hx0]; simp [hbM]
  ·refine xX1 rfl rfl ?_
   have fb := ya2 w f2
   have dl := ya6 6 f.dig.length (by omega)
   have hl := zp5 (dsum f.dig)
   rw [zN1] at hl
   have hfb : zM8 dsum w f = w ++ 32 :: (f.path ++ 32 :: (Lib.itoa f.dig.length ++ 32 :: hexE (dsum f.dig))) := rfl
   have di : Lib.itoa (f.dig.length : Int) = Lib.decDigits f.dig.length := by rw [zA7 (n := (f.dig.length : Int)) (by omega)]; simp
   have c1 : ∀ st h,opV G st h (.call Fn.q75) (some [.int .i64 (f.dig.length : Int)]) = some (.str (Lib.itoa f.dig.length),h) := fun st h => zb5 hI (us := [.int .i64 (f.dig.length : Int)]) rfl (by simp only [zE9]; rw [if_pos ⟨by omega,by omega⟩]) (.inl rfl)
   have c2 : ∀ st h,opV G st h (.call Fn.q37) (some [.str f.dig]) = some (.str (hexE (dsum f.dig)),h) := fun st h => zb5 hH (us := [.str f.dig]) rfl (yy2 f2) (.inl rfl)
   obtain ⟨s1,s2,s3,s4,s5,s6,s7,a1,a2,a3,a4,a5,a6,a7,e7⟩ := yx1 (w := w) (p := f.path) (it := Lib.itoa f.dig.length) (hx := hexE (dsum f.dig)) (by rw [di]; omega)
   rw [← hfb] at e7
   have l7 : s7.length ≤ 2000 := by rw [e7]; simp; omega
   have a8 : zc2 .add (.str T) (.str s7) = some (.str (T ++ s7)) := zi7 (by unfold zj2; omega)
   have ih := xZ2 G hI hH o hx A B x11 a b la lb hok hlen h0 h1 h2 Q k (j + 1) (T ++ s7) (cs ++ [.cells f.row,.cells f.row]) (by omega) (by simp; omega) (fun cs' => by
    have := hk cs'
    rw [hxd] at this
    simp only [zp7] at this
    rw [show T ++ s7 ++ zp7 ((itXs a b).drop (j + 1)) = T ++ (zM8 dsum w f ++ 10 :: zp7 ((itXs a b).drop (j + 1))) by rw [e7]; simp]
    exact this)
   clear hk e7 hfb
   generalize hexE (dsum f.dig) = xx at c2 a6
   generalize Lib.itoa (f.dig.length : Int) = it at c1 a4
   generalize T ++ s7 = T2 at a8 ih
   generalize za1 a = RA at ih ⊢
   generalize za1 b = RB at ih ⊢
   have hst := yZ6 (h := hbM T RA RB (.lp false .normal) (cs ++ [.cells f.row])) (f := f)
   have hrow : f.row = [.str f.path,.str f.dig] := rfl
   rw [hrow] at ih hst ⊢
   obtain ⟨g,hg⟩ : ∃ g,g = hbM T RA RB (.lp false .normal) (cs ++ [.cells [.str f.path,.str f.dig]]) := ⟨_,rfl⟩
   rw [← hg] at hst ⊢
   obtain ⟨g1,hg1⟩ : ∃ g1,g1 = g ++ [Blk.cells [.str f.path,.str f.dig]] := ⟨_,rfl⟩
   have q3 : g1[3]? = some (.lp false .normal) := by rw [hg1,hg]; rfl
   obtain ⟨g2,hg2⟩ : ∃ g2,g2 = g1.set 3 (.lp true .normal) := ⟨_,rfl⟩
   have hl1 : g.length = 5 + cs.length := by rw [hg]; simp; omega
   have q0 : g2[0]? = some (.cells [.str T]) := by rw [hg2,hg1,hg]; rfl
   have p0 : za8 1 false g2 (.ptr 0 0) = some (.str T) := yN6 q0
   have gx : g2[g.length]? = some (.cells [.str f.path,.str f.dig]) := by rw [hg2,List.getElem?_set_ne (by omega),hg1]; simp
   have p1 : za8 1 false g2 (.ptr g.length 0) = some (.str f.path) := zk9 gx rfl
   have p2 : za8 1 false g2 (.ptr g.length 1) = some (.str f.dig) := zk9 gx rfl
   have ls : ∀ h (s : Bs),ze1 h 0 (.str s) = some (.int .i64 (s.length : Int)) := fun h s => rfl
   obtain ⟨g3,hg3⟩ : ∃ g3,g3 = g2.set 0 (.cells [.str T2]) := ⟨_,rfl⟩
   have sT : stAV 1 g2 (.ptr 0 0) (.str T2) = some g3 := by
    have := zC1 (h := g2) (l := 0) (n := 1) (vs := [.str T]) (us := [.str T2]) q0 rfl rfl (by omega) rfl
    rw [hg3]
    simp [stAV,q0,zj1,AV.cells,oneC]
   have q33 : g3[3]? = some (.lp true .normal) := by rw [hg3,List.getElem?_set_ne (by omega),hg2,List.getElem?_set_self (by rw [hg1]; simp; omega)]
   have hfin : g3.set 3 (.lp false .normal) = hbM T2 RA RB (.lp false .normal) (cs ++ [.cells [.str f.path,.str f.dig],.cells [.str f.path,.str f.dig]]) := by
    rw [hg3,hg2,hg1,hg]; simp
   rw [← hg1] at hst
   simp [Mc.q57_A0,zG5,hst,asgQ,q3,← hg2,-zd5]
   simp [Mc.q57_L0,p0,p1,p2,ls,c1,c2,a1,a2,a3,a4,a5,a6,a7,a8,sT,we4,q33,hfin,-za8,-zd5,-ze1]
   exact ih
end Go.Proofs.YtopiadllkglamaaGreatDoor
namespace Go.Proofs.YtopiadllkglamaaGreatDoor
open Go.RowKit Go.IntWalk
theorem xe1 {o hx : Bs} (h : o.length + hx.length ≤ 1000000) : ∃ s1 s2 s3 s4 s5 s6 : Bs,
  zc2 .add (.str [111,117,116,112,117,116,32]) (.str o) = some (.str s1) ∧ zc2 .add (.str s1) (.str [10]) = some (.str s2) ∧ zc2 .add (.str s2) (.str [98,105,110,97,114,121]) = some (.str s3) ∧ zc2 .add (.str s3) (.str [32]) = some (.str s4) ∧ zc2 .add (.str s4) (.str hx) = some (.str s5) ∧ zc2 .add (.str s5) (.str [10]) = some (.str s6) ∧ s6 = (zm3 ++ 32 :: o) ++ 10 :: ((zm4 ++ 32 :: hx) ++ [10]) :=
 ⟨[111,117,116,112,117,116,32] ++ o,[111,117,116,112,117,116,32] ++ o ++ [10],[111,117,116,112,117,116,32] ++ o ++ [10] ++ [98,105,110,97,114,121],[111,117,116,112,117,116,32] ++ o ++ [10] ++ [98,105,110,97,114,121] ++ [32],[111,117,116,112,117,116,32] ++ o ++ [10] ++ [98,105,110,97,114,121] ++ [32] ++ hx,[111,117,116,112,117,116,32] ++ o ++ [10] ++ [98,105,110,97,114,121] ++ [32] ++ hx ++ [10],
  zi7 (by unfold zj2; simp; omega),zi7 (by unfold zj2; simp; omega),zi7 (by unfold zj2; simp; omega),zi7 (by unfold zj2; simp; omega),zi7 (by unfold zj2; simp; omega),zi7 (by unfold zj2; simp; omega),by simp [zm3,zm4]⟩
theorem xZ3 {G : Gam} (hP : G Fn.tree_Path = some (.pure zz4)) (hD : G Fn.q74 = some (.pure zl9)) (hC : G Fn.tree_Check = some (.pure zj9)) (hL : G Fn.q69 = some (.gen zV7)) (hL1 : G Fn.q61 = some (.iter F_It)) (hI : G Fn.q75 = some (.pure zE9)) (hH : G Fn.q37 = some (.pure zB4)) :
  ∀ args r,yc9 args = some r → wpM G Mc.q57 (zb0 Rs.q57 r) [] (za2 Ks.q57 args) [] := by
 intro args r hF
 unfold yc9 at hF
 split at hF
 ·rename_i o hx ra rb
  split at hF
  ·rename_i p s hp hs
   split at hF
   ·rename_i hc
    obtain ⟨h1,h2,h3,h4⟩ := hc
    injection hF with hF; subst hF
    obtain rfl : ra = za1 p := zl2 (fun r x => zh7) hp
    obtain rfl : rb = za1 s := zl2 (fun r x => zh7) hs
    have cP : ∀ st h,opV G st h (.call Fn.tree_Path) (some [.str o]) = some (.int .i64 (if zf1 o then 0 else 2),h) := fun st h => zb5 hP (us := [.str o]) rfl (yM1 h1) (.inl rfl)
    have cD : ∀ st h,opV G st h (.call Fn.q74) (some [.str hx]) = some (.tup [.str (zd9 hx).1,.int .i64 (zd9 hx).2],h) := fun st h => zb5 hD (us := [.str hx]) rfl (xF4 h2) (.inl rfl)
    have cA : ∀ st h,opV G st h (.call Fn.tree_Check) (some [.sl (za1 p)]) = some (.int .i64 (zr8 p),h) := fun st h => zb5 hC (us := [.sl (za1 p)]) rfl (yp1 h3) (.inl rfl)
    have cB : ∀ st h,opV G st h (.call Fn.tree_Check) (some [.sl (za1 s)]) = some (.int .i64 (zr8 s),h) := fun st h => zb5 hC (us := [.sl (za1 s)]) rfl (yp1 h4) (.inl rfl)
    obtain ⟨p1,p2⟩ := zq6 h3
    obtain ⟨q1,q2⟩ := zq6 h4
    have hok : ∀ x ∈ itXs p s,x.1.length ≤ 100 ∧ zA4 x.2 = true := fun x hx => by
     unfold itXs at hx
     rcases List.mem_append.1 hx with hx | hx
     ·obtain ⟨f,hf,rfl⟩ := List.mem_map.1 hx; exact ⟨by simp [ze9],p2 f hf⟩
     ·obtain ⟨f,hf,rfl⟩ := List.mem_map.1 hx; exact ⟨by simp [zd1],q2 f hf⟩
    have hlen : (itXs p s).length ≤ 128 := by unfold itXs; simp; omega
    obtain ⟨s1,s2,s3,s4,s5,s6,a1,a2,a3,a4,a5,a6,e6⟩ := xe1 (o := o) (hx := hx) (by omega)
    have l6 : s6.length ≤ 5000 := by rw [e6]; simp [zm3,zm4]; omega
    have hM : s6 ++ zp7 (itXs p s) = manT dsum o hx p s := by rw [e6,yV8]; simp [manT]
    have rg := fun x11 h0 g1 g2 Q hk => xZ2 G hI hH o hx (.sl (za1 p)) (.sl (za1 s)) x11 p s (by omega) (by omega) hok hlen h0 g1 g2 Q (itXs p s).length 0 s6 [] (by omega) (by omega) hk
    simp only [List.drop_zero,hM] at rg
    have cl : ∀ (T : Bs),opV G false [.cells [.str T]] (.call Fn.q69) (some [.sl (za1 p),.sl (za1 s)]) = some (.fn Fn.q61 [.ptr 1 0,.ptr 2 0],[.cells [.str T],.cells [.sl (za1 p)],.cells [.sl (za1 s)]]) := fun T => by
     rw [zg1 hL]; rfl
    have sT : ∀ T : Bs,stAV 1 [.cells [.str []]] (.ptr 0 0) (.str T) = some [.cells [.str T]] := fun T => by simp [stAV,zj1,AV.cells,oneC]
    rw [zc8]
    unfold manE
    generalize manT dsum o hx p s = M at rg ⊢
    clear hM e6 l6
    generalize (zd9 hx).1 = dx at cD
    generalize (zd9 hx).2 = dn at cD ⊢
    generalize zr8 p = t1 at cA ⊢
    generalize zr8 s = t2 at cB ⊢
    by_cases c1 : zf1 o = false
    ·rw [if_pos c1]
     have q : eqB 2 0 = false := rfl
     simp [c1] at cP
     simp [Mc.q57,Ks.q57,za2,cP,q,zb0,Rs.q57]
    ·rw [if_neg c1]
     have c1' : zf1 o = true := by simpa using c1
     simp [c1'] at cP
     have q0 : eqB 0 0 = true := rfl
     by_cases c2 : dn ≠ 0
     ·rw [if_pos c2]
      have q : eqB dn 0 = false := zj4.2 c2
      simp [Mc.q57,Ks.q57,za2,cP,cD,q,zH1,zb0,Rs.q57]
     ·rw [if_neg c2]
      have c2' : dn = 0 := by simpa using c2
      subst c2'
      by_cases c3 : t1 = 0
      ·subst c3
       by_cases c4 : t2 = 0
       ·subst c4
        rw [if_neg (by simp)]
        simp [Mc.q57,Ks.q57,za2,cP,cD,cA,cB,a1,a2,a3,a4,a5,a6,cl,sT,zH1,-zd5]
        refine wa9 (f := Fn.q61) (caps := [.ptr 1 0,.ptr 2 0]) (F := F_It) (by simp) hL1 ?_
        refine rg _ _ rfl rfl _ (fun cs' => ?_)
        have ld : ∀ tl : Heap,za8 1 false (.cells [.str M] :: tl) (.ptr 0 0) = some (.str M) := fun tl => yN6 rfl
        simp [ld,zb0,Rs.q57,-za8]
       ·rw [if_pos (.inr c4)]
        have q : eqB t2 0 = false := zj4.2 c4
        simp [Mc.q57,Ks.q57,za2,cP,cD,cA,cB,q,zH1,zb0,Rs.q57]
      ·rw [if_pos (.inl c3)]
       have q : eqB t1 0 = false := zj4.2 c3
       simp [Mc.q57,Ks.q57,za2,cP,cD,cA,q,zH1,zb0,Rs.q57]
   ·cases hF
  ·cases hF
 ·cases hF
end Go.Proofs.YtopiadllkglamaaGreatDoor
namespace Go.Proofs.YtopiadllkglamaaGreatDoor
open Go.RowKit Go.IntWalk
def zh0 : List AV → Option AV
 | [.str _,.str _,.sl a,.sl b] => match zs1 zl7 a,zs1 zl7 b with
  | some p,some s => if (p.length < big ∧ (p.all fun f => decide (f.dig.length ≤ 4294967296)) = true) ∧ (s.length < big ∧ (s.all fun f => decide (f.dig.length ≤ 4294967296)) = true) then some (.bool true) else none
  | _,_ => none
 | _ => none
theorem yV9 {n m : Int} {t : List Touch} (h : fewT n m t = true) (_hm : 0 ≤ m) : (t.length : Int) ≤ n ∧ ∀ f ∈ t,f.path.length ≤ 300 ∧ (f.dig.length : Int) ≤ m := by
 unfold fewT at h
 split at h
 ·cases h
 ·have key : ∀ (l : List Touch) (k : Int),0 ≤ k → zu8 m l k = true → ∀ f ∈ l,f.path.length ≤ 300 ∧ (f.dig.length : Int) ≤ m := by
   intro l
   induction l with
   | nil => intro _ _ _ f hf; cases hf
   | cons g r ih =>
    intro k hk hg f hf
    rw [zu8] at hg
    split at hg
    ·cases hg
    ·rename_i q1
     split at hg
     ·cases hg
     ·rename_i q2
      rcases List.mem_cons.1 hf with rfl | hf
      ·exact ⟨by omega,by omega⟩
      ·exact ih (k + g.dig.length) (by omega) hg f hf
  exact ⟨by omega,key t 0 (by omega) h⟩
theorem wb9 {t : List Touch} (h : fewT 24 400 t = true) : zo4 t = true := by
 obtain ⟨h1,h2⟩ := yV9 h (by omega)
 unfold zo4 zA4
 simp only [Bool.and_eq_true,decide_eq_true_eq,List.all_eq_true]
 refine ⟨by omega,fun f hf => ?_⟩
 have := h2 f hf
 omega
theorem xx3 {o hx : Bs} {p s : List Touch} (h1 : o.length ≤ 200) (h2 : hx.length ≤ 200) (h3 : zo4 p = true) (h4 : zo4 s = true) : (manT dsum o hx p s).length ≤ 900000 := by
 obtain ⟨p1,p2⟩ := zq6 h3
 obtain ⟨q1,q2⟩ := zq6 h4
 have fa := zz1 (w := ze9) (by decide) p2
 have fb := zz1 (w := zd1) (by decide) q2
 unfold manT
 simp [zm3,zm4]
 omega
theorem xK8 {o hx : Bs} {p s : List Touch} (h1 : o.length ≤ 200) (h2 : hx.length ≤ 200) (h3 : zo4 p = true) (h4 : zo4 s = true) : (manE dsum o hx p s).1.length ≤ 900000 := by
 have := xx3 h1 h2 h3 h4
 unfold manE
 split
 ·simp
 ·split
  ·simp
  ·split
   ·simp
   ·exact this
theorem zN7 {G : Gam} (hA : G Fn.q45 = some (.pure zR4)) (hW : G Fn.q62 = some (.pure zR6)) (hM : G Fn.q57 = some (.pure yc9)) (hR : G Fn.q35 = some (.pure yc9)) (hP : G Fn.bundle_Read = some (.pure yb6)) :
  ∀ args r,zh0 args = some r → wpM G Mc.q19 (zb0 Rs.q19 r) [] (za2 Ks.q19 args) [] := by
 intro args r hF0
 unfold zh0 at hF0
 split at hF0
 ·rename_i o hx ra rb
  split at hF0
  ·rename_i p s hp hs
   split at hF0
   ·rename_i hb
    injection hF0 with hF0; subst hF0
    obtain ⟨⟨b1,b2⟩,b3,b4⟩ := hb
    obtain rfl : ra = za1 p := zl2 (fun r x => zh7) hp
    obtain rfl : rb = za1 s := zl2 (fun r x => zh7) hs
    have ka : ∀ st h,opV G st h (.call Fn.q45) (some []) = some (.bool true,h) := fun st h => zb5 hA (us := []) rfl rfl (.inl rfl)
    have k1 : ∀ st h,opV G st h (.call Fn.q62) (some [.sl (za1 p),.int .i64 24,.int .i64 400]) = some (.bool (fewT 24 400 p),h) := fun st h => zb5 hW (us := [.sl (za1 p),.int .i64 24,.int .i64 400]) rfl (by simp only [zR6,zh1]; rw [if_pos ⟨b1,b2,by omega,by omega⟩]) (.inl rfl)
    have k2 : ∀ st h,opV G st h (.call Fn.q62) (some [.sl (za1 s),.int .i64 24,.int .i64 400]) = some (.bool (fewT 24 400 s),h) := fun st h => zb5 hW (us := [.sl (za1 s),.int .i64 24,.int .i64 400]) rfl (by simp only [zR6,zh1]; rw [if_pos ⟨b3,b4,by omega,by omega⟩]) (.inl rfl)
    have ls : ∀ h (s : Bs),ze1 h 0 (.str s) = some (.int .i64 (s.length : Int)) := fun h s => rfl
    rw [zc8]
    by_cases c1 : 200 < o.length
    ·have q1 : ltB 200 (o.length : Int) = true := zb8.2 (by omega)
     simp [Mc.q19,za2,Ks.q19,ka,ls,q1,zb0,Rs.q19,-ze1]
    ·have q1 : ltB 200 (o.length : Int) = false := ze4.2 (by omega)
     by_cases c2 : 200 < hx.length
     ·have q2 : ltB 200 (hx.length : Int) = true := zb8.2 (by omega)
      simp [Mc.q19,za2,Ks.q19,ka,ls,q1,q2,zb0,Rs.q19,-ze1]
     ·have q2 : ltB 200 (hx.length : Int) = false := ze4.2 (by omega)
      cases c3 : fewT 24 400 p with
      | false =>
       rw [c3] at k1
       simp [Mc.q19,za2,Ks.q19,ka,ls,q1,q2,k1,zb0,Rs.q19,-ze1]
      | true =>
       rw [c3] at k1
       cases c4 : fewT 24 400 s with
       | false =>
        rw [c4] at k2
        simp [Mc.q19,za2,Ks.q19,ka,ls,q1,q2,k1,k2,zb0,Rs.q19,-ze1]
       | true =>
        rw [c4] at k2
        have h3 := wb9 c3
        have h4 := wb9 c4
        have hl := xK8 (o := o) (hx := hx) (by omega) (by omega) h3 h4
        have hu : yc9 [.str o,.str hx,.sl (za1 p),.sl (za1 s)] = some (.tup [.str (manE dsum o hx p s).1,.int .i64 (manE dsum o hx p s).2]) := by
         simp only [yc9,zh1]
         rw [if_pos ⟨by omega,by omega,h3,h4⟩]
        have hrd := xv0 dsum zN1 (o := o) (hx := hx) (pap := p) (src := s)
        have km : ∀ h,opV G false h (.call Fn.q57) (some [.str o,.str hx,.sl (za1 p),.sl (za1 s)]) = some (.tup [.str (manE dsum o hx p s).1,.int .i64 (manE dsum o hx p s).2],h) := fun h => zb5 hM (us := [.str o,.str hx,.sl (za1 p),.sl (za1 s)]) rfl hu (.inl rfl)
        have kr : ∀ h,opV G false h (.call Fn.q35) (some [.str o,.str hx,.sl (za1 p),.sl (za1 s)]) = some (.tup [.str (manE dsum o hx p s).1,.int .i64 (manE dsum o hx p s).2],h) := fun h => zb5 hR (us := [.str o,.str hx,.sl (za1 p),.sl (za1 s)]) rfl hu (.inl rfl)
        generalize za1 p = RA at km kr k1 hu ⊢
        generalize za1 s = RB at km kr k2 hu ⊢
        clear hu
        generalize (manE dsum o hx p s).1 = T at km kr hrd hl
        generalize (manE dsum o hx p s).2 = E at km kr hrd
        by_cases hE : E = 0
        ·subst hE
         have kp : ∀ st h,opV G st h (.call Fn.bundle_Read) (some [.str T]) = some (.tup [.str o,.str hx,.int .i64 0],h) := fun st h => zb5 hP (us := [.str T]) rfl (by simp only [yb6]; rw [if_pos hl,hrd rfl]; rfl) (.inl rfl)
         simp [Mc.q19,za2,Ks.q19,ka,ls,q1,q2,k1,k2,km,kr,kp,zy6,zb0,Rs.q19,-ze1]
        ·have qE : eqB E 0 = false := zj4.2 hE
         have qE2 : eqB E E = true := xm1.2 rfl
         simp [Mc.q19,za2,Ks.q19,ka,ls,q1,q2,k1,k2,km,kr,qE,zy6,zH1,zb0,Rs.q19,-ze1]
   ·cases hF0
  ·cases hF0
 ·cases hF0
end Go.Proofs.YtopiadllkglamaaGreatDoor
