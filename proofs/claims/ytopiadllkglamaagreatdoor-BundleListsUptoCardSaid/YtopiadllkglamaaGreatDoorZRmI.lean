/- The reference: parts of names,paths. digest.Parse walked. The library's functions on strings,turned from the shelf: Atoi,Cut,IndexByte,HasPrefix,Clone,Contains,Count,Compare. The reference: t -/
import Derived.Test.YtopiadllkglamaaGreatDoorZRmD
import Derived.Lib.AtoiAll
import Derived.Shelf.Strings.Cut
import Derived.Test.YtopiadllkglamaaGreatDoorZRmB
import Derived.Test.YtopiadllkglamaaGreatDoorZAm10
import Derived.Lib.AtoiErrMem
import Derived.Lib.LaidTab
import Derived.Lib.Bytealg
import Derived.Lib.IndexMore
namespace Go.Proofs.YtopiadllkglamaaGreatDoor
open Go.RowKit Go.IntWalk
attribute [local congr] ite_congr
def F_name : List AV → Option AV := F1 eStr eBool fun s => if s.length ≤ big then some (partOK s) else none
theorem name_loop (G : Gam) (s : Bs) (hb : s.length ≤ big) : ∀ (rest : Bs) (i : Nat),s.drop i = rest →
  headM G [4] Mc.q57_L0 0 [.blk 0,.seq (.seq (.reg [⟨none,some 2,true,.mv,[.c (.bool true)]⟩]) .ret)] (pureQ Rs.q57 (.bool (rest.all fun b => pch b.toNat)))
  [(0,.str s),(2,.bool false),(3,.int .i64 i),(4,.junk)] []
 | [],i,hd => by
  have hi := drop_nil hd
  have hi' : ltB i s.length = false := ltB_not.2 (by omega)
  refine head_go (Mc.q57_L0.eq_1) ?_
  simp [trunc,hi',Rs.q57]
 | b :: rest,i,hd => by
  obtain ⟨hi,hx,hxd⟩ := drop_cons hd
  have hi' : ltB i s.length = true := ltB_iff.2 (by omega)
  have hw := wrap1 (i := i) (by omega)
  have ih := name_loop G s hb rest (i + 1) hxd
  refine head_go (Mc.q57_L0.eq_1) ?_
  have hB : ((ltB (b.toNat : Int) 97 || ltB 122 b.toNat) && (ltB b.toNat 48 || ltB 57 b.toNat) && !eqB b.toNat 46 && !eqB b.toNat 95 && !eqB b.toNat 45) = !pch b.toNat := by simp [pch]
  simp +contextual [trunc,hi',op_istr hx]
  rw [hB]
  cases hp : pch b.toNat with
  | true =>
   simp [hw]
   refine head_of ?_
   simpa [trunc] using ih
  | false => simp [Rs.q57]
theorem name_ok (G : Gam) : ∀ args r,F_name args = some r → wpM G Mc.q57 (pureQ Rs.q57 r) [] (frInit Ks.q57 args) [] := F1_ok fun s r h => by
 split at h
 ·rename_i hs
  injection h with h; subst h
  rw [wpM_go]
  cases s with
  | nil => simp +contextual [Mc.q57,frInit,Ks.q57,Rs.q57,eStr,eBool,partOK,ltB]
  | cons c r =>
   have ih := name_loop G (c :: r) hs (c :: r) 0 rfl
   have h0 : ltB ((r.length : Int) + 1) 1 = false := ltB_not.2 (by omega)
   have hl : ltB (((c :: r).length : Nat) : Int) 32 = ltB (r.length + 1) 32 := rfl
   simp +contextual [Mc.q57,frInit,Ks.q57,eStr,eBool,partOK,h0,-List.all_cons]
   cases c1 : ltB 32 ((r.length : Int) + 1) with
   | true => simp [Rs.q57]
   | false =>
    cases c2 : eqB (c.toNat : Int) 46 with
    | true => simp [Rs.q57]
    | false =>
     cases c3 : eqB (c.toNat : Int) 45 with
     | true => simp [Rs.q57]
     | false => simpa using ih
 ·cases h
end Go.Proofs.YtopiadllkglamaaGreatDoor
namespace Go.Proofs.YtopiadllkglamaaGreatDoor
open Go.RowKit Go.IntWalk
abbrev byteRow (b : UInt8) : List AV := [.int .u8 b.toNat]
end Go.Proofs.YtopiadllkglamaaGreatDoor
namespace Go.Proofs.YtopiadllkglamaaGreatDoor
open Go.RowKit
def atoiAV (T : TypeId) (s : Bs) : AV := match Lib.atoiAll s with
 | .ok v => .tup [.int .i64 v,.nili]
 | .range => .tup [.int .i64 (Lib.atoiSat s),.iface T .junk]
 | _ => .tup [.int .i64 0,.iface T .junk]
theorem numEnd_cases (x : Lib.NumEnd Int) : (∃ v,x = .ok v) ∨ x = .range ∨ x = Lib.atoiAll [] := by
 rcases x with v | _ | _
 ·exact .inl ⟨v,rfl⟩
 ·exact .inr (.inr rfl)
 ·exact .inr (.inl rfl)
def F_Atoi (T : TypeId) : List AV → Option AV
 | [.str s] => if s.length ≤ 281474976710656 then some (atoiAV T s) else none
 | _ => none
theorem atoi_pure {P : Program} {gv : Gv} {f g4 g5 T e5 : Nat} {t4 t5 : TypeId} {p4 p5 : Value} (h4 : gv.tb g4 = some [.iface t4 p4]) (h5 : gv.tb g5 = some [.iface t5 p5])
  (hok : ∀ (s : ByteArray),s.size ≤ 9223372036854775806 → ∀ (v : Int),Lib.atoiAll s.data.toList = .ok v → ∀ (w : World),Calls P f #[.string s] w fun e w' => e = .returned (.tuple #[.int .i64 v,.nilIface]) ∧ (w' = w ∨ ∃ t,w' = Lib.bytesWorld w e5 t))
  (hsy : ∀ (s : ByteArray),s.size ≤ 281474976710656 → Lib.atoiAll s.data.toList = Lib.atoiAll [] → ∀ (ev : Value) (w : World),w.cell? ⟨g4,0,none⟩ = some ev → (ev = .nilIface ∨ ∃ te pe,ev = .iface te pe) →
   Calls P f #[.string s] w fun e w' => (∃ N,e = .returned (.tuple #[.int .i64 0,.iface T (.pointer (some ⟨N,0,none⟩))])) ∧ Below w.heap.size w w')
  (hra : ∀ (s : ByteArray),s.size ≤ 281474976710656 → Lib.atoiAll s.data.toList = .range → ∀ (ev : Value) (w : World),w.cell? ⟨g5,0,none⟩ = some ev → (ev = .nilIface ∨ ∃ te pe,ev = .iface te pe) →
   Calls P f #[.string s] w fun e w' => (∃ N,e = .returned (.tuple #[.int .i64 (Lib.atoiSat s.data.toList),.iface T (.pointer (some ⟨N,0,none⟩))])) ∧ Below w.heap.size w w') : PureOK P gv f (F_Atoi T) := by
 refine pure_same fun I w args r vals hI hgl hr hF => ?_
 unfold F_Atoi at hF
 split at hF
 ·rename_i s
  split at hF
  ·rename_i hb
   injection hF with hF; subst hF
   obtain ⟨x,rfl,hx⟩ := one_arg hr
   have := str_inv hx; subst this
   have hsz : (ByteArray.mk s.toArray).size ≤ 281474976710656 := by rw [size_ba]; exact hb
   have hd : (ByteArray.mk s.toArray).data.toList = s := by simp
   rcases numEnd_cases (Lib.atoiAll s) with ⟨v,hv⟩ | hv | hv
   ·have e0 : atoiAV T s = .tup [.int .i64 v,.nili] := by unfold atoiAV; rw [hv]
    rw [e0]
    refine (hok ⟨s.toArray⟩ (by omega) v (by rw [hd]; exact hv) w).mono fun e w' hk => ?_
    obtain ⟨rfl,hk⟩ := hk
    refine ⟨⟨_,rfl,rel_tup2 (.int _ _) .nili⟩,?_⟩
    rcases hk with rfl | ⟨t,rfl⟩
    ·exact Below.refl _ _
    ·exact Lib.bytesWorld_below _ _ _
   ·have e0 : atoiAV T s = .tup [.int .i64 (Lib.atoiSat s),.iface T .junk] := by unfold atoiAV; rw [hv]
    rw [e0]
    obtain ⟨T5,fz,htb⟩ := hgl.tb g5 _ h5
    refine (hra ⟨s.toArray⟩ hsz (by rw [hd]; exact hv) _ w (by rw [cell_of_heap htb]; rfl) (.inr ⟨_,_,rfl⟩)).mono fun e w' hk => ?_
    obtain ⟨⟨N,rfl⟩,hbel⟩ := hk
    rw [hd]
    exact ⟨⟨_,rfl,rel_tup2 (.int _ _) (.iface _ _ _ (.junk _))⟩,hbel⟩
   ·have e0 : atoiAV T s = .tup [.int .i64 0,.iface T .junk] := by unfold atoiAV; rw [hv]; rfl
    rw [e0]
    obtain ⟨T4,fz,htb⟩ := hgl.tb g4 _ h4
    refine (hsy ⟨s.toArray⟩ hsz (by rw [hd]; exact hv) _ w (by rw [cell_of_heap htb]; rfl) (.inr ⟨_,_,rfl⟩)).mono fun e w' hk => ?_
    obtain ⟨⟨N,rfl⟩,hbel⟩ := hk
    exact ⟨⟨_,rfl,rel_tup2 (.int _ _) (.iface _ _ _ (.junk _))⟩,hbel⟩
  ·cases hF
 ·cases hF
def F_Cut : List AV → Option AV
 | [.str s,.str sep] => if s.length < 4294967281 then some (.tup [.str (Lib.cut s sep).1,.str (Lib.cut s sep).2.1,.bool (Lib.cut s sep).2.2]) else none
 | _ => none
theorem cut_pure {P : Program} {gv : Gv} {f g : Nat} {m : Int} (hg : gv g = some [.int .i64 m])
  (hc : ∀ (s sep : ByteArray) (w : World),s.size < 4294967281 → w.cell? ⟨g,0,none⟩ = some (.int .i64 m) → Calls P f #[.string s,.string sep] w fun e w' =>
   e = .returned (.tuple #[.string ⟨(Lib.cut s.data.toList sep.data.toList).1.toArray⟩,.string ⟨(Lib.cut s.data.toList sep.data.toList).2.1.toArray⟩,.bool (Lib.cut s.data.toList sep.data.toList).2.2]) ∧ ∃ n,w' = w.drewN n) : PureOK P gv f F_Cut := by
 refine pure_same fun I w args r vals hI hgl hr hF => ?_
 unfold F_Cut at hF
 split at hF
 ·rename_i s sep
  split at hF
  ·rename_i hb
   injection hF with hF; subst hF
   obtain ⟨x,y,rfl,hx,hy⟩ := two_args hr
   have := str_inv hx; subst this
   have := str_inv hy; subst this
   have hm : w.cell? ⟨g,0,none⟩ = some (.int .i64 m) := by
    have := hgl.gl g _ hg
    cases this with
    | fptr _ _ b o us k1 k2 =>
     have e := k2 0 (.int .i64 m) rfl
     have := int_inv e
     have c0 := hI.cell _ _ _ (k1 0 (.int .i64 m) rfl)
     rw [this] at c0
     simpa using c0
   refine (hc ⟨s.toArray⟩ ⟨sep.toArray⟩ w (by rw [size_ba]; exact hb) hm).mono fun e w' hk => ?_
   obtain ⟨rfl,n,rfl⟩ := hk
   refine ⟨⟨_,rfl,rel_tup3 (.str _) (.str _) (.bool _)⟩,?_⟩
   have := below_grow (w := w) (k := n) (os := #[])
   rwa [Go.Sort.grow_empty] at this
  ·cases hF
 ·cases hF
theorem hasPrefix_pure {P : Program} {gv : Gv} {f : Nat}
  (hc : ∀ (s t : ByteArray) (w : World),Calls P f #[.string s,.string t] w fun e w' => e = .returned (.bool (Lib.hasPrefix s.data.toList t.data.toList)) ∧ w' = w) : PureOK P gv f F_HasPrefix := by
 refine pure_same fun I w args r vals hI hgl hr hF => ?_
 unfold F_HasPrefix at hF
 split at hF
 ·rename_i s t
  injection hF with hF; subst hF
  obtain ⟨x,y,rfl,hx,hy⟩ := two_args hr
  have := str_inv hx; subst this
  have := str_inv hy; subst this
  refine (hc ⟨s.toArray⟩ ⟨t.toArray⟩ w).mono fun e w' hk => ?_
  obtain ⟨rfl,rfl⟩ := hk
  exact ⟨⟨_,rfl,.bool _⟩,Below.refl _ _⟩
 ·cases hF
theorem cloneS_pure {P : Program} {gv : Gv} {f : Nat}
  (hc : ∀ (s : ByteArray) (w : World),s.size ≤ 281474976710656 → Calls P f #[.string s] w fun e w' => e = .returned (.string s) ∧ Below w.heap.size w w') : PureOK P gv f fun args => match args with | [.str s] => if s.length ≤ 281474976710656 then some (.str s) else none | _ => none := by
 refine pure_same fun I w args r vals hI hgl hr hF => ?_
 split at hF
 ·rename_i s
  split at hF
  ·rename_i hs
   injection hF with hF; subst hF
   obtain ⟨x,rfl,hx⟩ := one_arg hr
   have := str_inv hx; subst this
   refine (hc ⟨s.toArray⟩ w (by rw [size_ba]; exact hs)).mono fun e w' hk => ?_
   obtain ⟨rfl,hb⟩ := hk
   exact ⟨⟨_,rfl,.str _⟩,hb⟩
  ·cases hF
 ·cases hF
theorem maxLen_cell {gv : Gv} {I : Nat → Nat → Option Value} {w : World} (hI : Holds I w) (hgl : GvHolds gv I w) {g : Nat} {m : Int} (hg : gv g = some [.int .i64 m]) : w.cell? ⟨g,0,none⟩ = some (.int .i64 m) := by
 have := hgl.gl g _ hg
 cases this with
 | fptr _ _ b o us k1 k2 =>
  have e := k2 0 (.int .i64 m) rfl
  have := int_inv e
  have c0 := hI.cell _ _ _ (k1 0 (.int .i64 m) rfl)
  rw [this] at c0
  simpa using c0
def F_Contains : List AV → Option AV
 | [.str s,.str t] => if s.length < 4294967281 then some (.bool (Lib.contains s t)) else none
 | _ => none
theorem contains_pure {P : Program} {gv : Gv} {f g : Nat} {m : Int} (hg : gv g = some [.int .i64 m])
  (hc : ∀ (s t : ByteArray) (w : World),s.size < 4294967281 → w.cell? ⟨g,0,none⟩ = some (.int .i64 m) → Calls P f #[.string s,.string t] w fun e w' => e = .returned (.bool (Lib.contains s.data.toList t.data.toList)) ∧ w' = w) : PureOK P gv f F_Contains := by
 refine pure_same fun I w args r vals hI hgl hr hF => ?_
 unfold F_Contains at hF
 split at hF
 ·rename_i s t
  split at hF
  ·rename_i hb
   injection hF with hF; subst hF
   obtain ⟨x,y,rfl,hx,hy⟩ := two_args hr
   have := str_inv hx; subst this
   have := str_inv hy; subst this
   refine (hc ⟨s.toArray⟩ ⟨t.toArray⟩ w (by rw [size_ba]; exact hb) (maxLen_cell hI hgl hg)).mono fun e w' hk => ?_
   obtain ⟨rfl,rfl⟩ := hk
   exact ⟨⟨_,rfl,.bool _⟩,Below.refl _ _⟩
  ·cases hF
 ·cases hF
def F_Count1 : List AV → Option AV
 | [.str s,.str [c]] => some (.int .i64 (Lib.countByte s c))
 | _ => none
theorem count1_pure {P : Program} {gv : Gv} {f : Nat}
  (hc : ∀ (s : ByteArray) (c : UInt8) (w : World),Calls P f #[.string s,.string ⟨#[c]⟩] w fun e w' => e = .returned (.int .i64 (Lib.countByte s.data.toList c)) ∧ w' = w) : PureOK P gv f F_Count1 := by
 refine pure_same fun I w args r vals hI hgl hr hF => ?_
 unfold F_Count1 at hF
 split at hF
 ·rename_i s c
  injection hF with hF; subst hF
  obtain ⟨x,y,rfl,hx,hy⟩ := two_args hr
  have := str_inv hx; subst this
  have := str_inv hy; subst this
  refine (hc ⟨s.toArray⟩ c w).mono fun e w' hk => ?_
  obtain ⟨rfl,rfl⟩ := hk
  exact ⟨⟨_,rfl,.int _ _⟩,Below.refl _ _⟩
 ·cases hF
def F_Compare : List AV → Option AV
 | [.str s,.str t] => some (.int .i64 (Lib.compareBytes s t))
 | _ => none
theorem compare_pure {P : Program} {gv : Gv} {f : Nat}
  (hc : ∀ (s t : ByteArray) (w : World),Calls P f #[.string s,.string t] w fun e w' => e = .returned (.int .i64 (Lib.compareBytes s.data.toList t.data.toList)) ∧ w' = w) : PureOK P gv f F_Compare := by
 refine pure_same fun I w args r vals hI hgl hr hF => ?_
 unfold F_Compare at hF
 split at hF
 ·rename_i s t
  injection hF with hF; subst hF
  obtain ⟨x,y,rfl,hx,hy⟩ := two_args hr
  have := str_inv hx; subst this
  have := str_inv hy; subst this
  refine (hc ⟨s.toArray⟩ ⟨t.toArray⟩ w).mono fun e w' hk => ?_
  obtain ⟨rfl,rfl⟩ := hk
  exact ⟨⟨_,rfl,.int _ _⟩,Below.refl _ _⟩
 ·cases hF
end Go.Proofs.YtopiadllkglamaaGreatDoor
namespace Go.Proofs.YtopiadllkglamaaGreatDoor
open Go.RowKit Go.IntWalk
end Go.Proofs.YtopiadllkglamaaGreatDoor
namespace Go.Proofs.YtopiadllkglamaaGreatDoor
open Go.RowKit Go.IntWalk
def OutI (o : Bs) (x : AV) (h : Heap) : Prop := x = .own 0 o.length o.length ∧ h = [.arr 1 o.length (o.map byteRow) true]
theorem OutI.rows {o : Bs} {x : AV} {h : Heap} (hi : OutI o x h) : rowsOf h x = some (o.map byteRow) := by
 obtain ⟨rfl,rfl⟩ := hi
 exact rows_own (h := [.arr 1 o.length (o.map byteRow) true]) rfl (by simp)
theorem OutI.trunc {o : Bs} {x : AV} {h : Heap} (hi : OutI o x h) (fr : List (Nat × AV)) : trunc 1 fr h = h := by
 obtain ⟨rfl,rfl⟩ := hi
 exact vtrunc_len rfl
theorem OutI.next {G : Gam} {o : Bs} {x : AV} {h : Heap} (b : UInt8) (hi : OutI o x h) (hb : o.length < big) :
  ∃ x' h',opV G false h (.app false 1 1) (some [x,.tsl [[.int .u8 (b.toNat : Int)]]]) = some (x',h') ∧ OutI (o ++ [b]) x' h' := by
 obtain ⟨rfl,rfl⟩ := hi
 have := op_app1 (G := G) (s := false) (h := [.arr 1 o.length (o.map byteRow) true]) (e := byteRow) (n := 1) (b := 1) (l := 0) (os := o) (x := b) rfl rfl (by omega) hb
 exact ⟨_,_,this,rfl,rfl⟩
end Go.Proofs.YtopiadllkglamaaGreatDoor
namespace Go.Proofs.YtopiadllkglamaaGreatDoor
open Go.RowKit Go.IntWalk
def sRow (w : Bs) : List AV := [.str w]
def SpH (os : List Bs) : Heap := [.arr 1 0 [] true,.arr 1 os.length (os.map sRow) true]
def F_Split03 : List AV → Option AV
 | [.str s,.int .u8 e] => if s.length ≤ 1000000 ∧ 0 ≤ e ∧ e < 256 then some (.sl ((splitBy (UInt8.ofNat e.toNat) s).map sRow)) else none
 | _ => none
theorem sp_app {G : Gam} (os : List Bs) (w : Bs) (hb : os.length < big) : opV G false (SpH os) (.app false 1 16) (some [.own 1 os.length os.length,.tsl [[.str w]]]) = some (.own 1 (os ++ [w]).length (os ++ [w]).length,SpH (os ++ [w])) :=
 op_app1 (e := sRow) (l := 1) (os := os) (x := w) rfl rfl (by omega) hb
theorem take_drop_snoc {s : Bs} {f i : Nat} {b : UInt8} (hf : f ≤ i) (hb : s[i]? = some b) : (s.take (i + 1)).drop f = (s.take i).drop f ++ [b] := by
 have hlt : i < s.length := (List.getElem?_eq_some_iff.1 hb).1
 rw [List.take_add_one,hb,List.drop_append_of_le_length (by rw [List.length_take]; omega)]; rfl
theorem split03_L0 (G : Gam) (s : Bs) (c : UInt8) (hs : s.length ≤ 1000000) : ∀ (rest : Bs) (i f : Nat) (os : List Bs),s.drop i = rest → i ≤ s.length → f ≤ i → os.length ≤ i → splitBy c s = os ++ preP ((s.take i).drop f) (splitBy c rest) →
  headM G [] Mc.q48_L0 2 [.blk 0,.seq (.seq (.reg [⟨none,some 28,false,.mv,[.t 5]⟩,⟨none,some 29,false,.mv,[.t 0]⟩,⟨none,some 30,false,.mv,[.t 6]⟩,⟨none,some 31,false,.slc none true false false,[.t 29,.t 30]⟩,
   ⟨none,some 32,false,.bsl false 1,[.t 31]⟩,⟨none,some 33,false,.app false 1 16,[.t 28,.t 32]⟩,⟨none,some 4,true,.mv,[.t 33]⟩]) .ret)] (pureQ Rs.q48 (.sl ((splitBy c s).map sRow)))
   [(0,.str s),(1,.int .u8 c.toNat),(4,.own 0 0 0),(5,.own 1 os.length os.length),(6,.int .i64 f),(7,.int .i64 i)] (SpH os)
 | [],i,f,os,hd,hi,hf,ho,hr => by
  have hi2 := drop_nil hd
  have e : i = s.length := by omega
  subst e
  have hl : ltB (s.length : Int) (s.length : Int) = false := ltB_not.2 (by omega)
  have sl : ∀ st h,opV G st h (.slc none true false false) (some [.str s,.int .i64 f]) = some (.str (s.drop f),h) := fun st h => slc_lo (k := f) rfl hf
  have ap := sp_app (G := G) os (s.drop f) (by unfold big; omega)
  rw [List.take_length] at hr
  have hr2 : splitBy c s = os ++ [s.drop f] := by simpa [splitBy,preP] using hr
  rw [hr2]
  refine head_go (Mc.q48_L0.eq_1) ?_
  rw [vtrunc_len (n := 2) rfl]
  have vw : rowsOf (SpH (os ++ [s.drop f])) (.own 1 (os ++ [s.drop f]).length (os ++ [s.drop f]).length) = some ((os ++ [s.drop f]).map sRow) :=
   rows_own (h := SpH (os ++ [s.drop f])) (l := 1) (sz := 1) (rows := (os ++ [s.drop f]).map sRow) (wr := true) rfl (by simp)
  simp [lenAV,sl,ownsL,owns,viewL,sizesOk,onesOk,oneC,AV.cells,ap,vw,pureQ,Rs.q48,-List.length_append,-List.map_append]
 | b :: rest,i,f,os,hd,hi,hf,ho,hr => by
  obtain ⟨hlt,hx,hxd⟩ := drop_cons hd
  have hl : ltB (i : Int) (s.length : Int) = true := ltB_iff.2 (by omega)
  have hw : IntKind.i64.wrap ((i : Int) + 1) = ((i + 1 : Nat) : Int) := wrap1 (by unfold big; omega)
  have is : ∀ st h,opV G st h .istr (some [.str s,.int .i64 i]) = some (.int .u8 b.toNat,h) := fun st h => op_istr hx
  refine head_go (Mc.q48_L0.eq_1) ?_
  rw [vtrunc_len (n := 2) rfl]
  by_cases hbc : b = c
  ·subst hbc
   rw [split_hit] at hr
   have sl : ∀ st h,opV G st h (.slc none true true false) (some [.str s,.int .i64 f,.int .i64 i]) = some (.str ((s.take i).drop f),h) := fun st h => slc_both rfl rfl hf hi
   have ap := sp_app (G := G) os ((s.take i).drop f) (by unfold big; omega)
   have hr2 : splitBy b s = (os ++ [(s.take i).drop f]) ++ preP ((s.take (i + 1)).drop (i + 1)) (splitBy b rest) := by
    have e : (s.take (i + 1)).drop (i + 1) = [] := by rw [List.drop_eq_nil_iff,List.length_take]; omega
    rw [e,preP_nil _ (splitBy_ne b rest),hr]; simp
   have ih := split03_L0 G s b hs rest (i + 1) (i + 1) (os ++ [(s.take i).drop f]) hxd (by omega) (by omega) (by simp; omega) hr2
   simp [lenAV,hl,is,sl,ownsL,owns,viewL,view,sizesOk,onesOk,oneC,AV.cells,ap,hw,-List.length_append]
   refine head_of ?_
   simpa [vtrunc_len (n := 2) (show (SpH _).length = 2 from rfl)] using ih
  ·have q : eqB (b.toNat : Int) (c.toNat : Int) = false := eqB_not.2 fun e => hbc (UInt8.toNat_inj.1 (by omega))
   rw [split_step hbc] at hr
   have hr2 : splitBy c s = os ++ preP ((s.take (i + 1)).drop f) (splitBy c rest) := by rw [take_drop_snoc hf hx]; exact hr
   have ih := split03_L0 G s c hs rest (i + 1) f os hxd (by omega) (by omega) (by omega) hr2
   simp [lenAV,hl,is,q,hw]
   refine head_of ?_
   simpa [vtrunc_len (n := 2) (show (SpH _).length = 2 from rfl)] using ih
theorem Split03_ok {G : Gam} : ∀ args r,F_Split03 args = some r → wpM G Mc.q48 (pureQ Rs.q48 r) [] (frInit Ks.q48 args) [] := by
 intro args r hF
 unfold F_Split03 at hF
 split at hF
 ·rename_i s e
  split at hF
  ·rename_i hc
   injection hF with hF; subst hF
   obtain ⟨h1,h2,h3⟩ := hc
   obtain ⟨E,hE⟩ : ∃ E : UInt8,e = (E.toNat : Int) := ⟨UInt8.ofNat e.toNat,by rw [UInt8.toNat_ofNat']; omega⟩
   subst hE
   have eE : UInt8.ofNat ((E.toNat : Int)).toNat = E := by simp
   rw [eE,wpM_go]
   have ih := split03_L0 G s E h1 s 0 0 [] rfl (by omega) (by omega) (by simp) (by simp [preP_nil _ (splitBy_ne E s)])
   simp [Mc.q48,frInit,Ks.q48]
   simpa [SpH] using ih
  ·cases hF
 ·cases hF
end Go.Proofs.YtopiadllkglamaaGreatDoor
namespace Go.Proofs.YtopiadllkglamaaGreatDoor
open Go.RowKit Go.IntWalk
theorem sRow_get {ws : List Bs} {i : Nat} {w : Bs} (h : ws[i]? = some w) : (ws.map sRow)[i]? = some [.str w] := by simp [h,sRow]
theorem path_L0 (G : Gam) (hN : G Fn.q57 = some (.pure F_name)) (s : Bs) (hs : s.length ≤ 128) (ws : List Bs) (hw8 : ws.length ≤ 8) (hws : ∀ w ∈ ws,w.length ≤ big) (r : Int) : ∀ (rest : List Bs) (i : Nat) (x : AV),ws.drop i = rest → r = (if rest.all partOK then 0 else 2) →
  headM G [5] Mc.q55_L0 0 [.blk 0,.seq (.seq (.reg [⟨none,some 2,true,.mv,[.c (.int .i64 0)]⟩]) .ret)] (pureQ Rs.q55 (.int .i64 r))
   [(0,.str s),(2,.int .i64 0),(3,.sl (ws.map sRow)),(5,x),(14,.sl (ws.map sRow)),(15,.int .i64 ws.length),(16,.int .i64 i)] []
 | [],i,x,hd,hr => by
  have hi2 := drop_nil hd
  have hl : ltB (i : Int) (ws.length : Int) = false := ltB_not.2 (by omega)
  simp only [List.all_nil,if_true] at hr
  subst hr
  refine head_go (Mc.q55_L0.eq_1) ?_
  simp [hl,vtrunc_len (n := 0) (h := []) rfl,pureQ,Rs.q55]
 | w :: rest,i,x,hd,hr => by
  obtain ⟨hlt,hx,hxd⟩ := drop_cons hd
  have hl : ltB (i : Int) (ws.length : Int) = true := ltB_iff.2 (by omega)
  have hw := wrap1 (i := i) (by unfold big; omega)
  have hrow := sRow_get hx
  have ir : ∀ st h,opV G st h (.iadr 1) (some [.sl (ws.map sRow),.int .i64 i]) = some (.fptr [.str w] 0,h) := fun st h => by
   rw [opV_quiet rfl]; simp [evalPure,iadrAV,hrow]
  have cn : ∀ st h,opV G st h (.call Fn.q57) (some [.str w]) = some (.bool (partOK w),h) := fun st h => op_call hN (us := [.str w]) rfl (F1_use (A := eStr) (R := eBool) (x := w) (by simp [hws w (List.mem_of_getElem? hx)])) (.inl rfl)
  refine head_go (Mc.q55_L0.eq_1) ?_
  cases hp : partOK w with
  | false =>
   rw [hp] at cn
   simp only [List.all_cons,hp,Bool.false_and,Bool.false_eq_true,if_false] at hr
   subst hr
   simp [hl,vtrunc_len (n := 0) (h := []) rfl,ir,cn,pureQ,Rs.q55]
  | true =>
   rw [hp] at cn
   simp only [List.all_cons,hp,Bool.true_and] at hr
   have ih := path_L0 G hN s hs ws hw8 hws r rest (i + 1) (.str w) hxd hr
   simp [hl,vtrunc_len (n := 0) (h := []) rfl,ir,cn,hw]
   simpa using ih
theorem Path03_ok {G : Gam} (hN : G Fn.q57 = some (.pure F_name)) (hS : G Fn.q48 = some (.pure F_Split03)) : ∀ args r,F_Path args = some r → wpM G Mc.q55 (pureQ Rs.q55 r) [] (frInit Ks.q55 args) [] := F1_ok fun s r h => by
 split at h
 ·rename_i hs
  injection h with h; subst h
  rw [wpM_go]
  by_cases h1 : 128 < s.length
  ·have q : ltB 128 (s.length : Int) = true := ltB_iff.2 (by omega)
   have e : pathOK s = false := by simp [pathOK,q]
   rw [e]
   simp [Mc.q55,frInit,Ks.q55,lenAV,q,pureQ,Rs.q55]
  ·have q : ltB 128 (s.length : Int) = false := ltB_not.2 (by omega)
   have cs : ∀ st h,opV G st h (.call Fn.q48) (some [.str s,.int .u8 47]) = some (.sl ((splitBy 47 s).map sRow),h) := fun st h => op_call hS (us := [.str s,.int .u8 47]) rfl (by
    simp only [F_Split03]; rw [if_pos ⟨by omega,by omega,by omega⟩]; rfl) (.inr rfl)
   by_cases h2 : 8 < (splitBy 47 s).length
   ·have q2 : ltB 8 ((splitBy 47 s).length : Int) = true := ltB_iff.2 (by omega)
    have e : pathOK s = false := by simp [pathOK,q,q2]
    rw [e]
    simp [Mc.q55,frInit,Ks.q55,lenAV,q,q2,cs,pureQ,Rs.q55]
   ·have q2 : ltB 8 ((splitBy 47 s).length : Int) = false := ltB_not.2 (by omega)
    have e : pathOK s = (splitBy 47 s).all partOK := by simp [pathOK,q,q2]
    rw [e]
    have hwl : ∀ (c : UInt8) (s w : Bs),w ∈ splitBy c s → w.length ≤ s.length := by
     intro c s
     induction s with
     | nil => intro w hw; simp [splitBy] at hw; subst hw; simp
     | cons b t ih =>
      intro w hw
      simp only [splitBy] at hw
      split at hw
      ·rcases List.mem_cons.1 hw with rfl | hw
       ·simp
       ·have := ih w hw; simp; omega
      ·split at hw
       ·rename_i p ps hps
        rcases List.mem_cons.1 hw with rfl | hw
        ·have := ih p (by rw [hps]; exact List.mem_cons_self); simp; omega
        ·have := ih w (by rw [hps]; exact List.mem_cons_of_mem _ hw); simp; omega
       ·simp at hw; subst hw; simp
    have ih := path_L0 G hN s (by omega) (splitBy 47 s) (by omega) (fun w hw => by have := hwl 47 s w hw; unfold big; omega) _ (splitBy 47 s) 0 .junk rfl rfl
    simp [Mc.q55,frInit,Ks.q55,lenAV,q,q2,cs]
    simpa using ih
 ·cases h
end Go.Proofs.YtopiadllkglamaaGreatDoor
