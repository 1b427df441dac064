/- A sponge takes in a string: the method. A sponge's digest: the method. A sponge's digest: the method; the digest of a string. The digest of a string. -/
import Derived.Test.YtopiadllkglamaaGreatDoorWRmG
namespace Go.Proofs.YtopiadllkglamaaGreatDoor
open Go.RowKit Go.IntWalk
abbrev tl2 (seen : List Int) (ta sm : Bs) : List AV := wd seen ++ [.str ta,.str sm]
theorem xI3 (n : Nat) (seen : List Int) (ta sm : Bs) : lowL n (tl2 seen ta sm) = true := by
 rw [zU8,yF9]; rfl
def yH4 (vs : List AV) : Option (List Int × AV × Int × List Int × Bs × Bs) :=
 match decK .u64 (vs.take 25),vs.drop 25 with
 | some st,rest :: .int .i64 tk :: r => match decK .u64 (r.take 25),r.drop 25 with
  | some seen,[.str ta,.str sm] => if st.length = 25 ∧ seen.length = 25 then some (st,rest,tk,seen,ta,sm) else none
  | _,_ => none
 | _,_ => none
theorem yO8 {vs : List AV} {st : List Int} {rest : AV} {tk : Int} {seen : List Int} {ta sm : Bs} (h : yH4 vs = some (st,rest,tk,seen,ta,sm)) : vs = sp st rest tk (tl2 seen ta sm) ∧ st.length = 25 ∧ seen.length = 25 := by
 unfold yH4 at h
 split at h
 ·rename_i st' rest' tk' r h1 h2
  split at h
  ·rename_i seen' ta' sm' h3 h4
   split at h
   ·rename_i hc
    simp only [Option.some.injEq,Prod.mk.injEq] at h
    obtain ⟨rfl,rfl,rfl,rfl,rfl,rfl⟩ := h
    refine ⟨?_,hc⟩
    have e1 := zP7 _ h1
    have e2 := zP7 _ h3
    rw [← List.take_append_drop 25 vs,e1,h2,← List.take_append_drop 25 r,e2,h4]
   ·cases h
  ·cases h
 ·cases h
theorem xz9 {st : List Int} {rest : AV} {tk : Int} {seen : List Int} {ta sm : Bs} (hs : st.length = 25) (hs2 : seen.length = 25) : yH4 (sp st rest tk (tl2 seen ta sm)) = some (st,rest,tk,seen,ta,sm) := by
 have e1 : (tl2 seen ta sm).take 25 = wd seen := by rw [List.take_left' (by simpa using hs2)]
 have e2 : (tl2 seen ta sm).drop 25 = [.str ta,.str sm] := by rw [List.drop_left' (by simpa using hs2)]
 simp only [yH4,yE0 hs,yE1 hs,zP8,e1,e2,hs,hs2,and_self,if_true]
def zb4 (d : Bs) : List Int := d.map fun b => (b.toNat : Int)
def zp9 (st : List Int) (tk : Int) (T : List AV) (bs : List Int) (os : List (List (List AV))) : Heap :=
 if bs = [] then [.cells (sp st .nils tk T)] else hold st tk T bs os
def zR5 (args : List AV) (h : Heap) : Option (AV × Heap) :=
 match args,h with
 | [.ptr 0 0,.tsl [[.str d]]],[.cells vs] => match yH4 vs with
  | some (st,.nils,tk,seen,ta,sm) => if d.length ≤ big then
    some (.int .i64 (IntKind.i64.wrap (tk + d.length)),zp9 (zk3 d.length st (zb4 d) []).1 (IntKind.i64.wrap (tk + d.length)) (tl2 seen ta sm) (zk3 d.length st (zb4 d) []).2.1 (zk3 d.length st (zb4 d) []).2.2) else none
  | _ => none
 | _,_ => none
theorem yd3 {n : Nat} {fr : List (Nat × AV)} {h : Heap} (h1 : zm1 n fr = true) (h2 : lowH n (h.take n) = true) : trunc n fr h = h.take n := by
 unfold trunc; rw [h1,h2]; rfl
theorem xV9 (n : Nat) (st : List Int) (tk : Int) (seen : List Int) (ta sm : Bs) : lowL n (sp st .nils tk (tl2 seen ta sm)) = true := by
 rw [zU8,yF9]; simp only [lowL,low,xI3]; rfl
theorem zY7 (n m : Nat) : ∀ h : Heap,lowH n h = true → lowH n (h.take m) = true := by
 intro h
 induction h generalizing m with
 | nil => simp [lowH]
 | cons b h ih =>
  intro hh
  simp only [lowH,Bool.and_eq_true] at hh
  cases m with
  | zero => rfl
  | succ m => simp only [List.take_succ_cons,lowH,hh.1,ih m hh.2,Bool.and_self]
theorem xH9 {fr fr' : List (Nat × AV)} (hf : zm1 2 fr = true) (hf' : zm1 1 fr' = true) {st : List Int} {tk : Int} {seen : List Int} {ta sm : Bs} {bs : List Int} {os : List (List (List AV))} :
  trunc 1 fr' (trunc 2 fr (hold st tk (tl2 seen ta sm) bs os)) = zp9 st tk (tl2 seen ta sm) bs os := by
 by_cases hb : bs = []
 ·have hl : ∀ n,lowH n (Blk.cells (sp st .nils tk (tl2 seen ta sm)) :: os.map fun r => Blk.arr 1 0 r false) = true := fun n => by
   simp only [lowH,lowB,xV9,yw8,Bool.and_self]
  simp only [hold,zp9,if_pos hb]
  rw [yd3 hf (zY7 _ _ _ (hl 2)),yd3 hf' (zY7 _ _ _ (zY7 _ _ _ (hl 1)))]
  simp
 ·rw [zF9 (by omega) (by omega) _ hb (.inl rfl) (by
   cases os with
   | nil => right; simp [hold,hb]
   | cons o os => left; simp; omega),zF9 (by omega) (by omega) _ hb (.inr (.inr trivial)) (.inl (by omega))]
  simp [zp9,hb]
theorem wr0 {st : List Int} {tk : Int} {T : List AV} {bs : List Int} {os : List (List (List AV))} : ∃ rv,(zp9 st tk T bs os)[0]? = some (.cells (sp st rv tk T)) := by
 unfold zp9 hold
 split
 ·exact ⟨_,rfl⟩
 ·exact ⟨_,rfl⟩
theorem zW1 : ∀ (N : Nat) (st bs : List Int) (os : List (List (List AV))),(zk3 N st bs os).1.length = st.length
 | 0,_,_,_ => rfl
 | N + 1,st,bs,os => by
  simp only [zk3]
  split
  ·rfl
  ·rw [zW1 N,zW6]
theorem zz8 : ∀ l : List Int,zc3 1 (za0 l) = true
 | [] => rfl
 | a :: l => by simpa [za0,zc3] using zz8 l
theorem xC3 (G : Gam) (hA : G Fn.q25 = some (.gen zr6)) : ∀ args h r h',zR5 args h = some (r,h') → wpM G Mc.q26 (genQ Rs.q26 r h') [] (za2 Ks.q26 args) h := by
 intro args h r h' he
 unfold zR5 at he
 split at he
 ·rename_i d vs
  split at he
  ·rename_i st tk seen ta sm hdec
   split at he
   ·rename_i hbig
    obtain ⟨rfl,hs,hs2⟩ := yO8 hdec
    injection he with he; injection he with h1 h2; subst h1 h2
    obtain ⟨T,hT⟩ : ∃ T,T = tl2 seen ta sm := ⟨_,rfl⟩
    have hdone := fun (fr fr' : List (Nat × AV)) hf hf' (st : List Int) (tk : Int) bs os => xH9 (fr := fr) (fr' := fr') hf hf' (st := st) (tk := tk) (seen := seen) (ta := ta) (sm := sm) (bs := bs) (os := os)
    rw [← hT] at hdone ⊢
    obtain ⟨tk2,htk⟩ : ∃ t,t = IntKind.i64.wrap (tk + d.length) := ⟨_,rfl⟩
    rw [← htk]
    have ld26 : za8 1 false [.cells (sp st .nils tk T)] (.ptr 0 26) = some (.int .i64 tk) := zk9 rfl (xW0 hs)
    have st26 := zt9 (h := [.cells (sp st .nils tk T)]) (l := 0) rfl (off := 26) (v := .int .i64 tk2) (by rw [zW7 hs]; omega) rfl rfl
    rw [xt5 hs] at st26
    have ld25 : za8 1 false [.cells (sp st .nils tk2 T)] (.ptr 0 25) = some .nils := zk9 rfl (yt1 hs)
    have iad : ∀ h : Heap,zc9 1 h (.tsl [[.str d]]) (.int .i64 0) = some (.fptr [.str d] 0) := fun h => by simp [zc9]
    obtain ⟨R,hR⟩ : ∃ R,R = zk3 d.length st (zb4 d) [] := ⟨_,rfl⟩
    have hRl : R.1.length = 25 := by rw [hR,zW1]; exact hs
    obtain ⟨rv,hrv⟩ := wr0 (st := R.1) (tk := tk2) (T := T) (bs := R.2.1) (os := R.2.2)
    have lf := zk9 hrv (xW0 hRl)
    have hw : IntKind.i64.wrap 1 = 1 := by decide
    rw [zc8]
    by_cases hd : d = []
    ·subst hd
     have hR' : R = (st,[],[]) := by rw [hR]; rfl
     rw [← hR]
     have ap : ∀ st0 (h : Heap),opV G st0 h (.app true 1 1) (some [.nils,.str []]) = some (.nils,h) := fun st0 h => by rw [zi1 rfl]; simp [zb1,zn5,zc3,zQ6]
     have st25 := zt9 (h := [.cells (sp st .nils tk2 T)]) (l := 0) rfl (off := 25) (v := .nils) (by rw [zW7 hs]; omega) rfl rfl
     rw [zF4 hs] at st25
     have c1 : ltB 0 1 = true := zb8.2 (by omega)
     have c2 : ltB 0 136 = true := zb8.2 (by omega)
     simp only [List.set_cons_zero] at st26 st25
     have hwr : zp9 R.1 tk2 T R.2.1 R.2.2 = [.cells (sp st .nils tk2 T)] := by rw [hR']; rfl
     rw [hwr] at lf ⊢
     have htk' : IntKind.i64.wrap tk = tk2 := by rw [htk]; simp
     simp [Mc.q26,za2,Ks.q26]
     refine zb3 (Mc.q26_L0.eq_1) ?_
     rw [za5 (n := 1) rfl]
     simp [iad,ld26,htk',st26,ld25,ap,st25,c1,-za8,-zd5]
     refine zb3 (Mc.q26_L1.eq_1) ?_
     rw [za5 (n := 1) rfl]
     simp [ld25,yt5,c2,hw,-za8]
     refine zb3 (Mc.q26_L0.eq_1) ?_
     rw [za5 (n := 1) rfl]
     simp [lf,genQ,Rs.q26,-za8]
    ·have hne : zb4 d ≠ [] := fun e => hd (List.map_eq_nil_iff.1 e)
     have hbl : (zb4 d).length = d.length := by simp [zb4]
     have hrows : d.map (fun b => [AV.int .u8 (b.toNat : Int)]) = za0 (zb4 d) := by simp [za0,zb4]
     have hsz : zc3 1 (za0 (zb4 d)) = true := by
      exact zz8 _
     have hne2 : za0 (zb4 d) ≠ [] := fun e => hne (List.map_eq_nil_iff.1 e)
     have hbl2 : (za0 (zb4 d)).length = d.length := by simp [za0,hbl]
     have ap : ∀ st0 (h : Heap),opV G st0 h (.app true 1 1) (some [.nils,.str d]) = some (.own h.length 0 d.length,h ++ [.arr 1 0 (za0 (zb4 d)) true]) := fun st0 h => by
      rw [zi1 rfl]
      have hb2 : d.length ≤ zb9 := by unfold big at hbig; unfold zb9; omega
      simp [zb1,zn5,hrows,hsz,zQ6,hne2,hbl2,hb2]
     have st25 := zt9 (h := [.cells (sp st .nils tk2 T),.arr 1 0 (za0 (zb4 d)) true]) (l := 0) rfl (off := 25) (v := .own 1 0 d.length) (by rw [zW7 hs]; omega) rfl rfl
     rw [zF4 hs] at st25
     have hho : hold st tk2 T (zb4 d) [] = [.cells (sp st (.own 1 0 d.length) tk2 T),.arr 1 0 (za0 (zb4 d)) true] := by
      simp [hold,hne,hbl]
     have c1 : ltB 0 1 = true := zb8.2 (by omega)
     simp only [List.set_cons_zero] at st26 st25
     have l1 := fun ks Q hk => xV5 G hA (.tsl [[.str d]]) (.str d) tk2 T (ks := ks) (Q := Q) d.length st (zb4 d) [] (by omega) (by omega) hs (fun e => absurd e hne) hk
     rw [hho] at l1
     rw [← hR] at l1 ⊢
     simp only [wfr] at l1
     simp [Mc.q26,za2,Ks.q26]
     refine zb3 (Mc.q26_L0.eq_1) ?_
     rw [za5 (n := 1) rfl]
     simp [iad,ld26,← htk,st26,ld25,ap,st25,c1,-za8,-zd5]
     refine l1 _ _ (fun env => ?_)
     simp [hw]
     refine zb3 (Mc.q26_L0.eq_1) ?_
     have e1 := hdone [(0,.ptr 0 0),(1,.tsl [[.str d]]),(4,.int .i64 0),(6,.str d),(7,.tsl [[.str d]]),(8,.int .i64 1),(9,.int .i64 0)] [(0,.ptr 0 0),(1,.tsl [[.str d]]),(4,.int .i64 0),(6,.junk),(7,.tsl [[.str d]]),(8,.int .i64 1),(9,.int .i64 1)] (by simp [zm1,low]) (by simp [zm1,low]) R.1 tk2 R.2.1 R.2.2
     simp [zc0,e1,lf,genQ,Rs.q26,-za8]
   ·cases he
  ·cases he
 ·cases he
end Go.Proofs.YtopiadllkglamaaGreatDoor
namespace Go.Proofs.YtopiadllkglamaaGreatDoor
open Go.RowKit Go.IntWalk
section
variable {G : Gam} {h : Heap} {l : Nat} {bs : List Int}
theorem zk7 {i : Nat} {v : Int} (hv : bs[i]? = some v) : (za0 bs)[i]? = some [.int .u8 v] := by simp [za0,hv]
theorem zT8 {i : Nat} {v : Int} : (za0 bs).set i [.int .u8 v] = za0 (bs.set i v) := by simp [za0,List.map_set]
theorem byteRows_len : (za0 bs).length = bs.length := by simp [za0]
theorem xB4 {i n : Nat} {k : IntKind} (hl : h[l]? = some (.arr 1 0 (za0 bs) true)) (hn : n = bs.length) (hi : i < n) : zc9 1 h (.own l 0 n) (.int k i) = some (.eptr l 0 i 0) :=
 zV0 hl (by rw [byteRows_len]; exact hn) (row := [.int .u8 bs[i]]) (zk7 (by simp [show i < bs.length by omega])) rfl
theorem ba_ld {i : Nat} {v : Int} (hl : h[l]? = some (.arr 1 0 (za0 bs) true)) (hi : bs[i]? = some v) : za8 1 false h (.eptr l 0 i 0) = some (.int .u8 v) := by
 rw [yn5 hl (zk7 hi)]; simp
theorem xB3 {st0 : Bool} {i : Nat} {v : Int} (hl : h[l]? = some (.arr 1 0 (za0 bs) true)) (hi : i < bs.length) : opV G st0 h (.st 1) (some [.eptr l 0 i 0,.int .u8 v]) = some (.junk,h.set l (.arr 1 0 (za0 (bs.set i v)) true)) := by
 rw [zO9 (n := 1) hl (zk7 (bs := bs) (i := i) (v := bs[i]) (by simp [hi])) rfl (by omega) rfl (by simp) rfl rfl]
 simp only [zj1,AV.cells]
 rw [← zT8]
 simp
end
def outE (p : List Int) : Nat → Nat → List Int → List Int
 | 0,_,o => o
 | k + 1,i,o => outE p k (i + 1) (o.set i (IntKind.u8.wrap (sr (p.getD (i / 8) 0) (8 * (i % 8 : Nat)))))
theorem zU7 (p : List Int) : ∀ (k i : Nat) (o : List Int),(outE p k i o).length = o.length
 | 0,_,_ => rfl
 | k + 1,i,o => by rw [outE,zU7 p k]; simp
def inB (n : Int) : Prop := 0 ≤ n ∧ n < 256
theorem xV6 (a : Int) : inB (IntKind.u8.wrap a) := by
 unfold inB IntKind.wrap
 simp [IntKind.signed,IntKind.bits]
 exact ⟨Int.emod_nonneg _ (by decide),Int.emod_lt_of_pos _ (by decide)⟩
theorem ym5 (p : List Int) : ∀ (k i : Nat) (o : List Int),(∀ n ∈ o,inB n) → ∀ n ∈ outE p k i o,inB n
 | 0,_,o,h => h
 | k + 1,i,o,h => by
  rw [outE]
  refine ym5 p k (i + 1) _ fun n hn => ?_
  rcases List.mem_or_eq_of_mem_set hn with hn | rfl
  ·exact h n hn
  ·exact xV6 _
def strI (bs : List Int) : Bs := bs.map fun n => UInt8.ofNat n.toNat
theorem zV3 : ∀ bs : List Int,(∀ n ∈ bs,inB n) → ze6 (za0 bs) = some (strI bs)
 | [],_ => rfl
 | n :: r,h => by
  have ih := zV3 r (fun x hx => h x (by simp [hx]))
  have h1 := h n (by simp)
  simp only [za0,List.map_cons,ze6]
  rw [if_pos (show 0 ≤ n ∧ n < 256 from h1)]
  simp only [za0] at ih
  rw [ih]; rfl
abbrev smfr (n L M : Nat) (e6 : AV) (i : Nat) : List (Nat × AV) := [(0,.ptr 0 0),(2,.str []),(3,.ptr n 0),(4,.own L 0 136),(5,.own M 0 32),(6,e6),(65,.int .i64 32),(66,.int .i64 i)]
theorem xD2 (G : Gam) (n L M : Nat) (p : List Int) (hp : p.length = 25) (tl : List AV) {ks : List MK} {Q : zc4} : ∀ (k i : Nat) (o : List Int) (h : Heap),i + k = 32 → o.length = 32 → h.length = M + 1 → n ≠ M → h[n]? = some (.cells (wd p ++ tl)) → h[M]? = some (.arr 1 0 (za0 o) true) →
  (∀ env,exM G .normal ks Q env (smfr n L M .junk 32) (h.set M (.arr 1 0 (za0 (outE p k i o)) true))) →
  zi3 G [6] Mc.q32_L0 (M + 1) (.blk 0 :: ks) Q (smfr n L M .junk i) h
 | 0,i,o,h,hi,ho,hN,hne,hl,hm,hk => by
  have e : i = 32 := by omega
  subst e
  have hset : h.set M (.arr 1 0 (za0 (outE p 0 32 o)) true) = h := zK9 hm
  rw [hset] at hk
  refine zb3 (Mc.q32_L0.eq_1) ?_
  rw [za5 hN]
  simp
  simpa [smfr] using hk _
 | k + 1,i,o,h,hi,ho,hN,hne,hl,hm,hk => by
  have hlt : ltB i 32 = true := zb8.2 (by omega)
  have hw := zn1 (i := i) (by unfold big; omega)
  obtain ⟨q,hqe,hq⟩ := quo8 (i := i) (by omega)
  obtain ⟨m,hme,hm8,hmm⟩ := rem8 i
  simp only [outE,← hqe,← hme] at hk
  have w1 : IntKind.i64.wrap (8 * (m : Int)) = 8 * m := zb6 (by omega) (by omega)
  have hq25 : q < 25 := by omega
  have aa := fun st0 h => zh5 (G := G) (s := st0) (h := h) (len := 25) (size := 1) (l := n) (off := 0) (i := q) (k := .i64) hq25 (by decide)
  have cc := zk9 (h := h) (l := n) hl (vs := wd p ++ tl) (off := q) (v := .int .u64 (p.getD q 0)) (by rw [List.getElem?_append_left (by simp; omega)]; exact zm5 (by omega))
  have hs2 := yP6 (a := p.getD q 0) (b := 8 * (m : Int)) (k := .i64) (by omega)
  generalize p.getD q 0 = v0 at cc hs2 hk
  have at1 := xB4 (k := .i64) (i := i) (n := 32) hm ho.symm (by omega)
  have st1 := fun st0 => xB3 (G := G) (st0 := st0) (i := i) (v := IntKind.u8.wrap (sr v0 (8 * (m : Int)))) hm (by omega)
  have hMl : M < h.length := by omega
  have ih := xD2 G n L M p hp tl (ks := ks) (Q := Q) k (i + 1) (o.set i (IntKind.u8.wrap (sr v0 (8 * (m : Int))))) (h.set M (.arr 1 0 (za0 (o.set i (IntKind.u8.wrap (sr v0 (8 * (m : Int)))))) true)) (by omega) (by simpa using ho) (by simpa using hN) hne (by rw [List.getElem?_set_ne (by omega)]; exact hl) (by rw [List.getElem?_set_self hMl]) (by simpa [List.set_set] using hk)
  simp only [Nat.zero_add,Nat.mul_one] at aa
  have st1' := st1 false
  refine zb3 (Mc.q32_L0.eq_1) ?_
  rw [za5 hN]
  simp [hlt,hq,hmm,w1,aa,cc,hs2,at1,st1',hw,-zd5,-za8,-yc3]
  refine ze8 ?_
  rw [za5 (n := M + 1) (by simpa using hN)]
  simpa [wd,smfr] using ih
end Go.Proofs.YtopiadllkglamaaGreatDoor
namespace Go.Proofs.YtopiadllkglamaaGreatDoor
open Go.RowKit Go.IntWalk
def xoB (a b : Int) : Int := IntKind.u8.wrap (BitVec.ofInt 8 a ^^^ BitVec.ofInt 8 b).toNat
@[simp] theorem bin_xoB {a b : Int} : zc2 .xor (.int .u8 a) (.int .u8 b) = some (.int .u8 (xoB a b)) := rfl
def zt2 (bs : List Int) : List Int := (bs ++ List.replicate (136 - bs.length) 0).set bs.length 6
def zM3 (bs : List Int) : List Int := (zt2 bs).set 135 (xoB ((zt2 bs).getD 135 0) 128)
theorem zP4 {bs : List Int} (hb : bs.length < 136) : (zt2 bs).length = 136 := by simp [zt2]; omega
theorem zZ3 {bs : List Int} (hb : bs.length < 136) : (zM3 bs).length = 136 := by simp [zM3,zP4 hb]
def zU4 (st bs : List Int) : List Int := zl1 (fun st c => zk1 st offsL c) (absE st 0 bs) constL
theorem xc3 {st bs : List Int} : (zU4 st bs).length = st.length := by unfold zU4; rw [zC6 (fun st c => zy7),zr5]
def outB (st bs : List Int) : List Int := outE (zU4 st (zM3 bs)) 32 0 (List.replicate 32 0)
def yl6 (n : Nat) (bs : List Int) : AV := if bs = [] then .nils else .own (n + 1) 0 bs.length
def zN2 (h : Heap) (st : List Int) (tk : Int) (T : List AV) (bs : List Int) : Heap :=
 h ++ (.cells (sp st (yl6 h.length bs) tk T) :: if bs = [] then [] else [Blk.arr 1 0 (za0 bs) true])
def sumH (h : Heap) (st : List Int) (rest : AV) (tk : Int) (T : List AV) (bs : List Int) : Heap :=
 ((((zN2 h st tk T bs ++ [Blk.arr 1 0 (za0 (List.replicate 136 0)) true]).set (zN2 h st tk T bs).length (.arr 1 0 (za0 (zM3 bs)) true)).set h.length (.cells (wd (zU4 st (zM3 bs)) ++ yl6 h.length bs :: .int .i64 tk :: T))) ++ [Blk.arr 1 0 (za0 (outB st bs)) true]).set 0
  (.cells (sp st rest tk (wd st ++ [.str (strI bs),.str (strI (outB st bs))])))
def yj6 (args : List AV) (h : Heap) : Option (AV × Heap) :=
 match args with
 | [.ptr 0 0] => match h[0]? with
  | some (Blk.cells vs) => match yH4 vs with
   | some (st,rest,tk,seen,ta,[]) => match zb7 h rest with
    | some rows => match zs8 (rOne (zo6 .u8)).dec rows with
     | some bs => if bs.length < 136 ∧ bs.all (fun n => decide (0 ≤ n ∧ n < 256)) then some (.str (strI (outB st bs)),sumH h st rest tk (tl2 seen ta []) bs) else none
     | none => none
    | none => none
   | _ => none
  | _ => none
 | _ => none
theorem xu4 {h : Heap} {x : AV} {rows : List (List AV)} (hr : zb7 h x = some rows) : oneC x = true ∧ x.cells = [x] := by
 cases x <;> first | (simp [zb7] at hr; done) | exact ⟨rfl,rfl⟩
theorem wf4 (G : Gam) (hA : G Fn.q25 = some (.gen zr6)) (hC : G Fn.q27 = some (.gen zR8)) : ∀ args h r h',yj6 args h = some (r,h') → wpM G Mc.q32 (genQ Rs.q32 r h') [] (za2 Ks.q32 args) h := by
 intro args h r h' he
 unfold yj6 at he
 split at he
 ·split at he
  ·rename_i vs hl
   split at he
   ·rename_i st rest tk seen ta hdec
    split at he
    ·rename_i rows hr
     split at he
     ·rename_i bs hd
      split at he
      ·rename_i hc
       obtain ⟨hb,hin⟩ := hc
       obtain ⟨rfl,hs,hs2⟩ := yO8 hdec
       have e3 := zG2 (rOne (zo6 .u8)) hd
       rw [yA4] at e3
       subst e3
       injection he with he; injection he with h1 h2; subst h1
       have hinb : ∀ n ∈ bs,inB n := fun n hn => by simpa [inB] using List.all_eq_true.1 hin n hn
       obtain ⟨hone,hcells⟩ := xu4 hr
       obtain ⟨T,hT⟩ : ∃ T,T = tl2 seen ta [] := ⟨_,rfl⟩
       have hTl : T.length = 27 := by rw [hT]; simp [hs2]
       rw [← hT] at h2 hl
       have hTone : T.all oneC = true := by rw [hT]; simp [zr0 (f := AV.int .u64) (fun _ => rfl) seen]
       have hll := (List.getElem?_eq_some_iff.1 hl).1
       have g53 : za8 1 false h (.ptr 0 53) = some (.str []) := by
        refine zk9 hl ?_
        rw [List.getElem?_append_right (by simp [hs])]
        simp only [List.length_map,hs]
        show (rest :: .int .i64 tk :: T)[53 - 25]? = _
        rw [hT]
        simp only [List.getElem?_cons_succ]
        rw [List.getElem?_append_right (by simp [hs2])]
        simp [hs2]
       have hall : (sp st rest tk T).all oneC = true := by
        rw [List.all_append,zr0 (f := AV.int .u64) (fun _ => rfl)]
        simp [hone,hTone]
       have hlen54 : (sp st rest tk T).length = 54 := by rw [zW7 hs,hTl]
       have cC : zR8 [.ptr 0 0] h = some (.ptr h.length 0,zN2 h st tk T bs) := by
        have hsz := zz8 bs
        have hbb : (za0 bs).length ≤ zb9 := by rw [byteRows_len]; unfold zb9; omega
        simp only [zR8,hl,yt1 hs,hr]
        rw [if_pos ⟨hlen54,hall,hsz,hbb⟩]
        simp only [zN2,yl6]
        by_cases hbn : bs = []
        ·subst hbn; simp [za0,zF4 hs]
        ·have : za0 bs ≠ [] := fun e => hbn (List.map_eq_nil_iff.1 e)
         simp only [if_neg this,if_neg hbn,zF4 hs,byteRows_len]
       have cC' : opV G false h (.call Fn.q27) (some [.ptr 0 0]) = some (.ptr h.length 0,zN2 h st tk T bs) := by rw [zg1 hC]; exact cC
       unfold sumH at h2
       obtain ⟨H1,hH1⟩ : ∃ H1,H1 = zN2 h st tk T bs := ⟨_,rfl⟩
       have a0 : H1[0]? = some (.cells (sp st rest tk T)) := by rw [hH1]; simp only [zN2]; rw [List.getElem?_append_left hll]; exact hl
       have an : H1[h.length]? = some (.cells (sp st (yl6 h.length bs) tk T)) := by rw [hH1]; simp [zN2]
       have hnl : h.length < H1.length := (List.getElem?_eq_some_iff.1 an).1
       have ar : zb7 H1 (yl6 h.length bs) = some (za0 bs) := by
        rw [hH1]
        by_cases hbn : bs = []
        ·subst hbn; rfl
        ·have hm : (h ++ (Blk.cells (sp st (yl6 h.length bs) tk T) :: [Blk.arr 1 0 (za0 bs) true]))[h.length + 1]? = some (.arr 1 0 (za0 bs) true) := by
          rw [List.getElem?_append_right (by omega)]; simp
         simp only [zN2,if_neg hbn]
         rw [show yl6 h.length bs = .own (h.length + 1) 0 bs.length by simp [yl6,hbn]] at hm ⊢
         exact zr2 hm byteRows_len.symm
       have arOld : zb7 H1 rest = some (za0 bs) := by rw [hH1]; exact zC3 hr _
       rw [← hH1] at h2 cC'
       obtain ⟨rc,hrc⟩ : ∃ rc,rc = yl6 h.length bs := ⟨_,rfl⟩
       rw [← hrc] at an ar h2
       clear cC hH1
       obtain ⟨n,hn⟩ : ∃ n,n = h.length := ⟨_,rfl⟩
       rw [← hn] at an h2 cC' hnl hll
       obtain ⟨L,hL⟩ : ∃ L,L = H1.length := ⟨_,rfl⟩
       rw [← hL] at h2 hnl
       have mk : opV G false H1 (.mksl [.int .u8 0] 1) (some [.int .i64 136,.int .i64 136]) = some (.own L 0 136,H1 ++ [Blk.arr 1 0 (za0 (List.replicate 136 0)) true]) := by
        have := ym6 (G := G) (s := false) (h := H1) (zero := [.int .u8 0]) (bytes := 1) (n := 136) (k := .i64) (k' := .i64) (by decide) (by decide)
        rw [hL]
        exact this
       obtain ⟨H2,hH2⟩ : ∃ H2,H2 = H1 ++ [Blk.arr 1 0 (za0 (List.replicate 136 0)) true] := ⟨_,rfl⟩
       rw [← hH2] at h2 mk
       have b0 : H2[0]? = some (.cells (sp st rest tk T)) := by rw [hH2,List.getElem?_append_left (by omega)]; exact a0
       have bn : H2[n]? = some (.cells (sp st rc tk T)) := by rw [hH2,List.getElem?_append_left (by omega)]; exact an
       have bL : H2[L]? = some (.arr 1 0 (za0 (List.replicate 136 0)) true) := by rw [hH2,hL]; simp
       have br : zb7 H2 rc = some (za0 bs) := by rw [hH2]; exact zC3 ar _
       have brO : zb7 H2 rest = some (za0 bs) := by rw [hH2]; exact zC3 arOld _
       have hl2 : H2.length = L + 1 := by rw [hH2,hL]; simp
       have ldr : za8 1 false H2 (.ptr n 25) = some rc := zk9 bn (yt1 hs)
       have hrcL : ∀ l v k,rc = .own l v k → l ≠ L ∧ l ≠ n := fun l v k e => by
        rw [e] at ar an
        refine ⟨fun e2 => ?_,fun e2 => ?_⟩
        ·subst e2
         simp [zb7,List.getElem?_eq_none (show H1.length ≤ l by omega)] at ar
        ·subst e2
         simp [zb7,an] at ar
       have hroL : ∀ l v k,rest = .own l v k → l ≠ L ∧ l ≠ n ∧ l ≠ 0 ∧ l < n := fun l v k e => by
        have hr' := hr
        rw [e] at hr'
        have hlt : l < h.length := by
         rcases Nat.lt_or_ge l h.length with g | g
         ·exact g
         ·simp [zb7,List.getElem?_eq_none g] at hr'
        refine ⟨by omega,by omega,fun e2 => ?_,by omega⟩
        subst e2; simp [zb7,hl] at hr'
       have rset : ∀ (H : Heap) (x : AV) (l : Nat) (b : Blk),(∀ l' v k,x = .own l' v k → l' ≠ l) → zb7 H x = some (za0 bs) → zb7 (H.set l b) x = some (za0 bs) := fun H x l b hx hr => by
        cases x <;> first | (simp [zb7] at hr; done) | exact hr | skip
        rename_i l2 v k
        simp only [zb7] at hr ⊢
        rw [List.getElem?_set_ne (fun e => hx l2 v k rfl e.symm)]; exact hr
       have cp : opV G false H2 (.cpy false 1) (some [.own L 0 136,rc]) = some (.int .i64 bs.length,H2.set L (.arr 1 0 (za0 (bs ++ List.replicate (136 - bs.length) 0)) true)) := by
        rw [zi1 rfl]
        have hrl : (za0 (List.replicate 136 (0 : Int))).length = 136 := by simp [za0]
        have hcat : za0 bs ++ (za0 (List.replicate 136 (0 : Int))).drop bs.length = za0 (bs ++ List.replicate (136 - bs.length) 0) := by
         unfold za0; rw [List.map_append,← List.map_drop,List.drop_replicate]
        simp only [zb1,zn5,Bool.false_eq_true,if_false,br,zz8,if_true,bL,hrl,byteRows_len,hcat]
        by_cases hbn : bs = []
        ·subst hbn
         rw [if_pos (show za0 [] = [] from rfl)]
         simp only [List.nil_append,List.length_nil,Nat.sub_zero]
         rw [zK9 bL]; rfl
        ·have hbn' : ¬ za0 bs = [] := fun e => hbn (List.map_eq_nil_iff.1 e)
         rw [if_neg hbn',if_pos ⟨trivial,by omega,by omega,trivial⟩]
       obtain ⟨H3,hH3⟩ : ∃ H3,H3 = H2.set L (.arr 1 0 (za0 (bs ++ List.replicate (136 - bs.length) 0)) true) := ⟨_,rfl⟩
       rw [← hH3] at cp
       have cn : H3[n]? = some (.cells (sp st rc tk T)) := by rw [hH3,List.getElem?_set_ne (by omega)]; exact bn
       have cL : H3[L]? = some (.arr 1 0 (za0 (bs ++ List.replicate (136 - bs.length) 0)) true) := by rw [hH3,List.getElem?_set_self (by omega)]
       have cr : zb7 H3 rc = some (za0 bs) := by rw [hH3]; exact rset _ _ _ _ (fun l v k e => (hrcL l v k e).1) br
       have hl3 : H3.length = L + 1 := by rw [hH3]; simpa using hl2
       have ldr3 : za8 1 false H3 (.ptr n 25) = some rc := zk9 cn (yt1 hs)
       have len3 := yN5 cr
       rw [byteRows_len] at len3
       have hl0 : (bs ++ List.replicate (136 - bs.length) (0 : Int)).length = 136 := by simp; omega
       have at3 := xB4 (k := .i64) (i := bs.length) (n := 136) cL hl0.symm hb
       have st3 := xB3 (G := G) (st0 := false) (i := bs.length) (v := 6) cL (by omega)
       obtain ⟨H4,hH4⟩ : ∃ H4,H4 = H3.set L (.arr 1 0 (za0 (zt2 bs)) true) := ⟨_,rfl⟩
       have st3' : opV G false H3 (.st 1) (some [.eptr L 0 bs.length 0,.int .u8 6]) = some (.junk,H4) := by rw [hH4]; exact st3
       have dn : H4[n]? = some (.cells (sp st rc tk T)) := by rw [hH4,List.getElem?_set_ne (by omega)]; exact cn
       have dL : H4[L]? = some (.arr 1 0 (za0 (zt2 bs)) true) := by rw [hH4,List.getElem?_set_self (by omega)]
       have hl4 : H4.length = L + 1 := by rw [hH4]; simpa using hl3
       have h136 := zP4 hb
       have at4 : zc9 1 H4 (.own L 0 136) (.int .i64 135) = some (.eptr L 0 135 0) := xB4 (k := .i64) (i := 135) (n := 136) dL h136.symm (by omega)
       have ld4 := ba_ld (i := 135) (v := (zt2 bs).getD 135 0) dL (by simp [h136])
       have st4 := xB3 (G := G) (st0 := false) (i := 135) (v := xoB ((zt2 bs).getD 135 0) 128) dL (by omega)
       obtain ⟨H5,hH5⟩ : ∃ H5,H5 = H4.set L (.arr 1 0 (za0 (zM3 bs)) true) := ⟨_,rfl⟩
       have st4' : opV G false H4 (.st 1) (some [.eptr L 0 135 0,.int .u8 (xoB ((zt2 bs).getD 135 0) 128)]) = some (.junk,H5) := by rw [hH5]; exact st4
       have hH5' : H5 = H2.set L (.arr 1 0 (za0 (zM3 bs)) true) := by rw [hH5,hH4,hH3]; simp [List.set_set]
       generalize (zt2 bs).getD 135 0 = v135 at ld4 st4'
       have en : H5[n]? = some (.cells (sp st rc tk T)) := by rw [hH5,List.getElem?_set_ne (by omega)]; exact dn
       have eL : H5[L]? = some (.arr 1 0 (za0 (zM3 bs)) true) := by rw [hH5,List.getElem?_set_self (by omega)]
       have hl5 : H5.length = L + 1 := by rw [hH5]; simpa using hl4
       have e0 : H5[0]? = some (.cells (sp st rest tk T)) := by rw [hH5',List.getElem?_set_ne (by omega)]; exact b0
       have er : zb7 H5 rest = some (za0 bs) := by rw [hH5']; exact rset _ _ _ _ (fun l v k e => (hroL l v k e).1) brO
       have hl136 := zZ3 hb
       rw [← hH5'] at h2
       clear hH5' hH5 hH4 hH3 st3 st4
       obtain ⟨la,hla⟩ : ∃ la,la = zM3 bs := ⟨_,rfl⟩
       rw [← hla] at h2 eL hl136
       have hpl : (zU4 st la).length = 25 := by rw [xc3]; exact hs
       have cA : zr6 [.ptr n 0,.own L 0 136] H5 = some (.tup [],H5.set n (.cells (wd (zU4 st la) ++ rc :: .int .i64 tk :: T))) := by
        have e1 : zs8 (rOne (zo6 .u8)).dec (za0 la) = some la := zt4 (rOne (zo6 .u8)) _
        have e4 : zb7 H5 (.own L 0 136) = some (za0 la) := zr2 eL (by rw [byteRows_len]; exact hl136.symm)
        simp only [zr6,en,e4,yE0 hs,zP8,e1,yE1 hs]
        rw [if_pos ⟨hs,by omega⟩]
        rfl
       have cA' : opV G false H5 (.call Fn.q25) (some [.ptr n 0,.own L 0 136]) = some (.tup [],H5.set n (.cells (wd (zU4 st la) ++ rc :: .int .i64 tk :: T))) := by rw [zg1 hA]; exact cA
       clear cA
       obtain ⟨o,ho⟩ : ∃ o,o = outB st bs := ⟨_,rfl⟩
       have ho' : o = outE (zU4 st la) 32 0 (List.replicate 32 0) := by rw [ho,hla]; rfl
       have hoin : ∀ n ∈ o,inB n := by
        rw [ho']
        exact ym5 _ _ _ _ fun n hn => by rw [(List.mem_replicate.1 hn).2]; exact ⟨by omega,by omega⟩
       have hol : o.length = 32 := by rw [ho',zU7]; rfl
       rw [← ho] at h2 ⊢
       generalize zU4 st la = p at cA' hpl ho' h2
       obtain ⟨H6,hH6⟩ : ∃ H6,H6 = H5.set n (.cells (wd p ++ rc :: .int .i64 tk :: T)) := ⟨_,rfl⟩
       rw [← hH6] at cA' h2
       have f0 : H6[0]? = some (.cells (sp st rest tk T)) := by rw [hH6,List.getElem?_set_ne (by omega)]; exact e0
       have fn : H6[n]? = some (.cells (wd p ++ rc :: .int .i64 tk :: T)) := by rw [hH6,List.getElem?_set_self (by omega)]
       have fr : zb7 H6 rest = some (za0 bs) := by rw [hH6]; exact rset _ _ _ _ (fun l v k e => (hroL l v k e).2.1) er
       have hl6 : H6.length = L + 1 := by rw [hH6]; simpa using hl5
       have mk2 : opV G false H6 (.mksl [.int .u8 0] 1) (some [.int .i64 32,.int .i64 32]) = some (.own (L + 1) 0 32,H6 ++ [Blk.arr 1 0 (za0 (List.replicate 32 0)) true]) := by
        have := ym6 (G := G) (s := false) (h := H6) (zero := [.int .u8 0]) (bytes := 1) (n := 32) (k := .i64) (k' := .i64) (by decide) (by decide)
        rw [← hl6]
        exact this
       have l0 := fun ks Q hk => xD2 G n L (L + 1) p hpl (rc :: .int .i64 tk :: T) (ks := ks) (Q := Q) 32 0 (List.replicate 32 0) (H6 ++ [Blk.arr 1 0 (za0 (List.replicate 32 0)) true]) (by omega) rfl (by simp [hl6]) (by omega) (by rw [List.getElem?_append_left (by omega)]; exact fn) (by rw [List.getElem?_append_right (by omega)]; simp [hl6]) hk
       rw [← ho'] at l0
       have hset : (H6 ++ [Blk.arr 1 0 (za0 (List.replicate 32 0)) true]).set (L + 1) (.arr 1 0 (za0 o) true) = H6 ++ [Blk.arr 1 0 (za0 o) true] := by
        rw [List.set_append_right _ _ (by omega),hl6]; simp
       rw [hset] at l0
       obtain ⟨H8,hH8⟩ : ∃ H8,H8 = H6 ++ [Blk.arr 1 0 (za0 o) true] := ⟨_,rfl⟩
       rw [← hH8] at l0 h2
       have k0 : H8[0]? = some (.cells (sp st rest tk T)) := by rw [hH8,List.getElem?_append_left (by omega)]; exact f0
       have kr : zb7 H8 rest = some (za0 bs) := by rw [hH8]; exact zC3 fr _
       have kM : H8[L + 1]? = some (.arr 1 0 (za0 o) true) := by rw [hH8,List.getElem?_append_right (by omega)]; simp [hl6]
       have hl8 : H8.length = L + 2 := by rw [hH8]; simp [hl6]
       have ld1 : za8 25 true H8 (.ptr 0 0) = some (.agg (wd st)) := by
        have hc : cut (sp st rest tk T) 0 25 = wd st := by
         unfold cut; rw [List.drop_zero,List.take_left' (by simpa using hs)]
        simp only [za8,k0,hc,zd8]
        simp [hs]
       have ld2 : za8 1 false H8 (.ptr 0 25) = some rest := zk9 k0 (yt1 hs)
       have b1 : ∀ st0,opV G st0 H8 .b2s (some [rest]) = some (.str (strI bs),H8) := fun st0 => by
        rw [zb2 rfl]; simp [za7,kr,zV3 bs hinb]
       have b2 : ∀ st0,opV G st0 H8 .b2s (some [.own (L + 1) 0 32]) = some (.str (strI o),H8) := fun st0 => by
        rw [zb2 rfl]
        have := zr2 kM (n := 32) (by rw [byteRows_len]; exact hol.symm)
        simp [za7,this,zV3 o hoin]
       have hl27 : (sp st rest tk T).length = 54 := hlen54
       have s1 : stAV 25 H8 (.ptr 0 27) (.agg (wd st)) = some (H8.set 0 (.cells (sp st rest tk (wd st ++ [.str ta,.str []])))) := by
        have hcs : (AV.agg (wd st)).cells = wd st := rfl
        have hsp : zj1 (sp st rest tk T) 27 (wd st) = sp st rest tk (wd st ++ [.str ta,.str []]) := by
         rw [zi6 _ _ _ (by rw [hl27]; simp; omega)]
         have q1 : (sp st rest tk T).take 27 = wd st ++ [rest,.int .i64 tk] := by
          rw [List.take_append,List.take_of_length_le (by simp [hs])]
          simp [hs]
         have q2 : (sp st rest tk T).drop (27 + (wd st).length) = [.str ta,.str []] := by
          rw [List.drop_append,List.drop_of_length_le (by simp [hs])]
          simp only [List.length_map,hs,List.nil_append]
          show (rest :: .int .i64 tk :: T).drop 27 = _
          simp only [List.drop_succ_cons]
          rw [hT,List.drop_left' (by simpa using hs2)]
         rw [q1,q2]; simp
        simp only [stAV,hcs,k0,hsp]
        rw [if_pos ⟨by simpa using hs,by omega,zr0 (fun _ => rfl) st⟩,if_pos (by rw [hl27]; omega)]
       obtain ⟨H9,hH9⟩ : ∃ H9,H9 = H8.set 0 (.cells (sp st rest tk (wd st ++ [.str ta,.str []]))) := ⟨_,rfl⟩
       rw [← hH9] at s1
       have m0 : H9[0]? = some (.cells (sp st rest tk (wd st ++ [.str ta,.str []]))) := by rw [hH9,List.getElem?_set_self (by omega)]
       have hm54 : ∀ a b : AV,(sp st rest tk (wd st ++ [a,b])).length = 54 := fun a b => by rw [zW7 hs]; simp [hs]
       have q52 : ∀ a b c : AV,(sp st rest tk (wd st ++ [a,b])).set 52 c = sp st rest tk (wd st ++ [c,b]) := fun a b c => by
        rw [List.set_append_right _ _ (by simp [hs])]
        simp only [List.length_map,hs]
        show wd st ++ (rest :: .int .i64 tk :: (wd st ++ [a,b])).set 27 c = _
        simp only [List.set_cons_succ]
        rw [List.set_append_right _ _ (by simp [hs])]; simp [hs]
       have q53 : ∀ a b c : AV,(sp st rest tk (wd st ++ [a,b])).set 53 c = sp st rest tk (wd st ++ [a,c]) := fun a b c => by
        rw [List.set_append_right _ _ (by simp [hs])]
        simp only [List.length_map,hs]
        show wd st ++ (rest :: .int .i64 tk :: (wd st ++ [a,b])).set 28 c = _
        simp only [List.set_cons_succ]
        rw [List.set_append_right _ _ (by simp [hs])]; simp [hs]
       have s2 := zt9 m0 (off := 52) (v := .str (strI bs)) (by rw [hm54]; omega) rfl rfl
       rw [q52] at s2
       obtain ⟨H10,hH10⟩ : ∃ H10,H10 = H9.set 0 (.cells (sp st rest tk (wd st ++ [.str (strI bs),.str []]))) := ⟨_,rfl⟩
       rw [← hH10] at s2
       have n0 : H10[0]? = some (.cells (sp st rest tk (wd st ++ [.str (strI bs),.str []]))) := by rw [hH10,List.getElem?_set_self (by rw [hH9]; simp; omega)]
       have s3 := zt9 n0 (off := 53) (v := .str (strI o)) (by rw [hm54]; omega) rfl rfl
       rw [q53] at s3
       have hfin : H10.set 0 (.cells (sp st rest tk (wd st ++ [.str (strI bs),.str (strI o)]))) = h' := by rw [hH10,hH9,h2.symm]; simp [List.set_set]
       rw [hfin] at s3
       have z0 : h'[0]? = some (.cells (sp st rest tk (wd st ++ [.str (strI bs),.str (strI o)]))) := by rw [← hfin,List.getElem?_set_self (by rw [hH10,hH9]; simp; omega)]
       have ldz : za8 1 false h' (.ptr 0 53) = some (.str (strI o)) := by
        refine zk9 z0 ?_
        rw [List.getElem?_append_right (by simp [hs])]
        simp only [List.length_map,hs]
        show (rest :: .int .i64 tk :: (wd st ++ [AV.str (strI bs),.str (strI o)]))[28]? = _
        simp only [List.getElem?_cons_succ]
        rw [List.getElem?_append_right (by simp [hs])]; simp [hs]
       have bneq : zc2 .neq (.str []) (.str []) = some (.bool false) := rfl
       have lo : ∀ H : Heap,ze1 H 1 (.own (L + 1) 0 32) = some (.int .i64 32) := fun H => by simp
       rw [zc8]
       simp [Mc.q32,lo,za2,Ks.q32,g53,bneq,cC',mk,ldr,cp,ldr3,len3,at3,st3',at4,ld4,st4',cA',mk2,hl6,-za8,-zd5,-yc3,-ze1]
       refine l0 _ _ (fun env => ?_)
       simp [smfr,ld1,ld2,b1,b2,s1,s2,s3,ldz,genQ,Rs.q32,-za8,-zd5]
      ·cases he
     ·cases he
    ·cases he
   ·cases he
  ·cases he
 ·cases he
end Go.Proofs.YtopiadllkglamaaGreatDoor
namespace Go.Proofs.YtopiadllkglamaaGreatDoor
open Go.RowKit Go.IntWalk
def zs25 : List Int := [0,0,0,0,0,0,0,0,0,0,0,0,0,0,0,0,0,0,0,0,0,0,0,0,0]
theorem xn3 : yH4 newS = some (zs25,.nils,0,zs25,[],[]) := rfl
def dsum (d : Bs) : Bs := strI (outB (zk3 d.length zs25 (zb4 d) []).1 (zk3 d.length zs25 (zb4 d) []).2.1)
def zz3 : List AV → Option AV := F1 eStr eStr fun d => if d.length ≤ big then some (dsum d) else none
theorem zW0 : ∀ (N : Nat) (st bs : List Int) (os : List (List (List AV))),bs.length < 136 * (N + 1) → (zk3 N st bs os).2.1.length < 136
 | 0,_,_,_,h => by simpa [zk3] using h
 | N + 1,st,bs,os,h => by
  simp only [zk3]
  split
  ·assumption
  ·exact zW0 N _ _ _ (by simp; omega)
theorem yr4 : ∀ (N : Nat) (st bs : List Int) (os : List (List (List AV))),∀ n ∈ (zk3 N st bs os).2.1,n ∈ bs
 | 0,_,_,_ => fun n h => h
 | N + 1,st,bs,os => fun n h => by
  simp only [zk3] at h
  split at h
  ·exact h
  ·exact List.mem_of_mem_drop (yr4 N _ _ _ n h)
theorem yX0 (d : Bs) : ∀ n ∈ zb4 d,inB n := fun n hn => by
 obtain ⟨b,_,rfl⟩ := List.mem_map.1 hn
 have := b.toNat_lt
 exact ⟨by omega,by omega⟩
theorem yR9 {st : List Int} {tk : Int} {seen : List Int} {bs : List Int} {os : List (List (List AV))} (hs : st.length = 25) (hs2 : seen.length = 25) (hb : bs.length < 136) (hin : ∀ n ∈ bs,inB n) :
  ∃ h',yj6 [.ptr 0 0] (zp9 st tk (tl2 seen [] []) bs os) = some (.str (strI (outB st bs)),h') := by
 have hall : bs.all (fun n => decide (0 ≤ n ∧ n < 256)) = true := List.all_eq_true.2 fun n hn => by simpa [inB] using hin n hn
 have hd : zs8 (rOne (zo6 .u8)).dec (za0 bs) = some bs := zt4 (rOne (zo6 .u8)) _
 obtain ⟨rest,h1,h2⟩ : ∃ rest,(zp9 st tk (tl2 seen [] []) bs os)[0]? = some (.cells (sp st rest tk (tl2 seen [] []))) ∧ zb7 (zp9 st tk (tl2 seen [] []) bs os) rest = some (za0 bs) := by
  by_cases hbn : bs = []
  ·subst hbn
   exact ⟨.nils,by simp [zp9],rfl⟩
  ·refine ⟨.own (1 + os.length) 0 bs.length,by simp [zp9,hold,hbn],?_⟩
   have : (zp9 st tk (tl2 seen [] []) bs os)[1 + os.length]? = some (.arr 1 0 (za0 bs) true) := by
    simp only [zp9,hold,if_neg hbn]
    rw [Nat.add_comm,List.getElem?_cons_succ,List.getElem?_append_right (by simp)]
    simp
   exact zr2 this byteRows_len.symm
 refine ⟨sumH (zp9 st tk (tl2 seen [] []) bs os) st rest tk (tl2 seen [] []) bs,?_⟩
 simp only [yj6,h1,xz9 hs hs2,h2,hd]
 rw [if_pos ⟨hb,hall⟩]
theorem xO1 (G : Gam) (hN : G Fn.digest_New = some (.gen xC8)) (hW : G Fn.q26 = some (.gen zR5)) (hS : G Fn.q32 = some (.gen yj6)) : ∀ args r,zz3 args = some r → wpM G Mc.digest_Sum (zb0 Rs.digest_Sum r) [] (za2 Ks.digest_Sum args) [] := zU6 fun d r h => by
 split at h
 ·rename_i hbig
  injection h with h; subst h
  have c1 : opV G false [] (.call Fn.digest_New) (some []) = some (.ptr 0 0,[.cells newS]) := by rw [zg1 hN]; rfl
  obtain ⟨v,hv⟩ : ∃ v,zR5 [.ptr 0 0,.tsl [[.str d]]] [.cells newS] = some (v,zp9 (zk3 d.length zs25 (zb4 d) []).1 (IntKind.i64.wrap (0 + d.length)) (tl2 zs25 [] []) (zk3 d.length zs25 (zb4 d) []).2.1 (zk3 d.length zs25 (zb4 d) []).2.2) := by
   refine ⟨.int .i64 (IntKind.i64.wrap (0 + d.length)),?_⟩
   simp only [zR5,xn3]
   rw [if_pos hbig]
  have c2 : opV G false [.cells newS] (.call Fn.q26) (some [.ptr 0 0,.tsl [[.str d]]]) = some (v,zp9 (zk3 d.length zs25 (zb4 d) []).1 (IntKind.i64.wrap (0 + d.length)) (tl2 zs25 [] []) (zk3 d.length zs25 (zb4 d) []).2.1 (zk3 d.length zs25 (zb4 d) []).2.2) := by
   rw [zg1 hW]; exact hv
  obtain ⟨h',hh'⟩ := yR9 (st := (zk3 d.length zs25 (zb4 d) []).1) (tk := IntKind.i64.wrap (0 + d.length)) (seen := zs25) (bs := (zk3 d.length zs25 (zb4 d) []).2.1) (os := (zk3 d.length zs25 (zb4 d) []).2.2) (by rw [zW1]; rfl) rfl
   (zW0 _ _ _ _ (by simp [zb4]; omega)) (fun n hn => yX0 d n (yr4 _ _ _ _ n hn))
  generalize zp9 (zk3 d.length zs25 (zb4 d) []).1 (IntKind.i64.wrap (0 + d.length)) (tl2 zs25 [] []) (zk3 d.length zs25 (zb4 d) []).2.1 (zk3 d.length zs25 (zb4 d) []).2.2 = H at c2 hh'
  have c3 : opV G false H (.call Fn.q32) (some [.ptr 0 0]) = some (.str (dsum d),h') := by rw [zg1 hS]; exact hh'
  generalize newS = S at c1 c2
  rw [zc8]
  simp [Mc.digest_Sum,za2,Ks.digest_Sum,c1,c2,c3,Rs.digest_Sum,zm0,owns,zj6,view,zc3,zt1]
 ·cases h
end Go.Proofs.YtopiadllkglamaaGreatDoor
