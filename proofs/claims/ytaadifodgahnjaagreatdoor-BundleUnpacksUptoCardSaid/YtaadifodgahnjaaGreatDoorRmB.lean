/- The reference: the number with which bytes begin. codec: the number with which what is left begins. Readers: an error; numbers. Readers: numbers,the reference's. Readers: texts. -/
import Derived.Test.YtaadifodgahnjaaGreatDoorRmA
namespace Go.Proofs.YtaadifodgahnjaaGreatDoor
open Go.RowKit Go.IntWalk
def cntR : Cnt → AV
 | .ok n i => .tup [.int .i64 n,.int .i64 i,.bool false]
 | .short => .tup [.int .i64 0,.int .i64 (-1),.bool true]
 | .corrupt => .tup [.int .i64 0,.int .i64 (-1),.bool false]
def F_Count : List AV → Option AV
 | [.str s,.int .i64 m,.int .u8 e] => if s.length ≤ big ∧ 0 ≤ m ∧ m ≤ 281474976710656 ∧ 0 ≤ e ∧ e < 256 then some (cntR (cntE m.toNat (UInt8.ofNat e.toNat) s 0 0)) else none
 | _ => none
theorem count_L0 (G : Gam) (s : Bs) (most : Nat) (e : UInt8) (hs : s.length ≤ big) (hm : most ≤ 281474976710656) (r : Cnt) {ks : List MK} : ∀ (rest : Bs) (i a : Nat),s.drop i = rest → i ≤ s.length → a ≤ most → r = cntE most e rest i a →
  (∀ env i a,r = .short → exM G .normal ks (pureQ Rs.q59 (cntR r)) env [(0,.str s),(1,.int .i64 most),(2,.int .u8 e.toNat),(6,.int .i64 0),(7,.int .i64 0),(8,.bool false),(9,a),(10,i)] []) →
  headM G [] Mc.q59_L0 0 (.blk 0 :: ks) (pureQ Rs.q59 (cntR r)) [(0,.str s),(1,.int .i64 most),(2,.int .u8 e.toNat),(6,.int .i64 0),(7,.int .i64 0),(8,.bool false),(9,.int .i64 a),(10,.int .i64 i)] []
 | [],i,a,hd,hi,ha,hr,hk => by
  have hi2 := drop_nil hd
  have e1 : i = s.length := by omega
  subst e1
  have hl : ltB (s.length : Int) (s.length : Int) = false := ltB_not.2 (by omega)
  simp only [cntE] at hr
  refine head_go (Mc.q59_L0.eq_1) ?_
  simp [trunc,lenAV]
  exact hk _ _ _ hr
 | c :: rest,i,a,hd,hi,ha,hr,hk => by
  obtain ⟨hlt,hx,hxd⟩ := drop_cons hd
  have hl : ltB (i : Int) (s.length : Int) = true := ltB_iff.2 (by omega)
  have is : ∀ st h,opV G st h .istr (some [.str s,.int .i64 i]) = some (.int .u8 c.toNat,h) := fun st h => op_istr hx
  have hw : IntKind.i64.wrap ((i : Int) + 1) = ((i + 1 : Nat) : Int) := wrap1 (by omega)
  have hcl := c.toNat_lt
  rw [cntE] at hr
  refine head_go (Mc.q59_L0.eq_1) ?_
  by_cases h1 : c = e ∧ 0 < i
  ·obtain ⟨rfl,hi0⟩ := h1
   have g1 : ltB 0 (i : Int) = true := ltB_iff.2 (by omega)
   rw [if_pos ⟨rfl,hi0⟩] at hr
   subst hr
   simp [trunc,lenAV,hl,is,g1,cntR,pureQ,Rs.q59]
  ·rw [if_neg h1] at hr
   obtain ⟨x,hx1⟩ : ∃ x,eqB (c.toNat : Int) (e.toNat : Int) = x := ⟨_,rfl⟩
   obtain ⟨y,hy1⟩ : ∃ y,ltB 0 (i : Int) = y := ⟨_,rfl⟩
   have hxy : (x && y) = false := by
    cases x with
    | false => rfl
    | true =>
     cases y with
     | false => rfl
     | true => exact absurd ⟨UInt8.toNat_inj.1 (by have := eqB_iff.1 hx1; omega),by have := ltB_iff.1 hy1; omega⟩ h1
   by_cases h2 : c.toNat < 48 ∨ 57 < c.toNat ∨ (0 < i ∧ a = 0)
   ·rw [if_pos h2] at hr
    subst hr
    by_cases k1 : c.toNat < 48
    ·have e1 : ltB (c.toNat : Int) 48 = true := ltB_iff.2 (by omega)
     cases x <;> cases y <;> first | (cases hxy; done) | simp [trunc,lenAV,hl,is,hx1,hy1,e1,cntR,pureQ,Rs.q59]
    ·have e1 : ltB (c.toNat : Int) 48 = false := ltB_not.2 (by omega)
     by_cases k2 : 57 < c.toNat
     ·have e2 : ltB 57 (c.toNat : Int) = true := ltB_iff.2 (by omega)
      cases x <;> cases y <;> first | (cases hxy; done) | simp [trunc,lenAV,hl,is,hx1,hy1,e1,e2,cntR,pureQ,Rs.q59]
     ·have e2 : ltB 57 (c.toNat : Int) = false := ltB_not.2 (by omega)
      obtain ⟨i0,a0⟩ : 0 < i ∧ a = 0 := by omega
      subst a0
      have y1 : y = true := by rw [← hy1]; exact ltB_iff.2 (by omega)
      subst y1
      cases x <;> first | (cases hxy; done) | simp [trunc,lenAV,hl,is,hx1,hy1,e1,e2,cntR,pureQ,Rs.q59]
   ·rw [if_neg h2] at hr
    have e1 : ltB (c.toNat : Int) 48 = false := ltB_not.2 (by omega)
    have e2 : ltB 57 (c.toNat : Int) = false := ltB_not.2 (by omega)
    obtain ⟨z,hz1⟩ : ∃ z,eqB (a : Int) 0 = z := ⟨_,rfl⟩
    have hyz : (y && z) = false := by
     cases y with
     | false => rfl
     | true =>
      cases z with
      | false => rfl
      | true => exact absurd (.inr (.inr ⟨by have := ltB_iff.1 hy1; omega,by have := eqB_iff.1 hz1; omega⟩)) h2
    obtain ⟨d,hd2⟩ : ∃ d : Nat,d = c.toNat - 48 := ⟨_,rfl⟩
    rw [← hd2] at hr
    have w1 : IntKind.u8.wrap ((c.toNat : Int) - 48) = (d : Int) := by rw [show (c.toNat : Int) - 48 = (d : Int) by omega]; exact u8_wrap (by omega)
    have w2 : IntKind.i64.wrap (d : Int) = d := i64_in _ ⟨by omega,by omega⟩
    have w3 : IntKind.i64.wrap (10 * (a : Int)) = 10 * (a : Int) := i64_in _ ⟨by omega,by omega⟩
    have w4 : IntKind.i64.wrap (10 * (a : Int) + d) = ((10 * a + d : Nat) : Int) := by rw [show 10 * (a : Int) + d = ((10 * a + d : Nat) : Int) by omega]; exact i64_in _ ⟨by omega,by omega⟩
    by_cases h3 : most < 10 * a + d
    ·rw [if_pos h3] at hr
     subst hr
     have e3 : ltB (most : Int) (10 * (a : Int) + d) = true := ltB_iff.2 (by omega)
     cases x <;> cases y <;> cases z <;> first | (cases hxy; done) | (cases hyz; done) | simp [trunc,lenAV,hl,is,hx1,hy1,hz1,e1,e2,e3,w1,w2,w3,w4,cntR,pureQ,Rs.q59]
    ·rw [if_neg h3] at hr
     have e3 : ltB (most : Int) (10 * (a : Int) + d) = false := ltB_not.2 (by omega)
     have ih := count_L0 G s most e hs hm r (ks := ks) rest (i + 1) (10 * a + d) hxd (by omega) (by omega) hr hk
     cases x <;> cases y <;> cases z <;> first | (cases hxy; done) | (cases hyz; done) | (simp [trunc,lenAV,hl,is,hx1,hy1,hz1,e1,e2,e3,w1,w2,w3,w4,hw]; simpa using ih)
theorem Count_ok {G : Gam} : ∀ args r,F_Count args = some r → wpM G Mc.q59 (pureQ Rs.q59 r) [] (frInit Ks.q59 args) [] := by
 intro args r hF
 unfold F_Count at hF
 split at hF
 ·rename_i s m e
  split at hF
  ·rename_i hc
   injection hF with hF; subst hF
   obtain ⟨h1,h2,h3,h4,h5⟩ := hc
   obtain ⟨k,rfl⟩ : ∃ k : Nat,m = k := ⟨m.toNat,by omega⟩
   obtain ⟨E,hE⟩ : ∃ E : UInt8,e = (E.toNat : Int) := ⟨UInt8.ofNat e.toNat,by rw [UInt8.toNat_ofNat']; omega⟩
   subst hE
   have eE : UInt8.ofNat ((E.toNat : Int)).toNat = E := by simp
   rw [eE]
   simp only [Int.toNat_natCast]
   obtain ⟨r,hr⟩ : ∃ r,r = cntE k E s 0 0 := ⟨_,rfl⟩
   rw [← hr,wpM_go]
   have ih := count_L0 G s k E h1 (by omega) r (ks := [.seq (.seq (.reg [⟨none,some 6,true,.mv,[.c (.int .i64 0)]⟩,⟨none,some 7,true,.mv,[.c (.int .i64 (-1))]⟩,⟨none,some 8,true,.mv,[.c (.bool true)]⟩]) .ret)]) s 0 0 rfl (by omega) (by omega) hr (fun env i a h => by
    subst h
    simp [cntR,pureQ,Rs.q59])
   simpa [Mc.q59,frInit,Ks.q59] using ih
  ·cases hF
 ·cases hF
end Go.Proofs.YtaadifodgahnjaaGreatDoor
namespace Go.Proofs.YtaadifodgahnjaaGreatDoor
open Go.RowKit Go.IntWalk
def cntP : Cnt → AV
 | .ok n i => .tup [.int .i64 n,.int .i64 ((i + 1 : Nat) : Int),.int .i64 0]
 | .short => .tup [.int .i64 0,.int .i64 0,.int .i64 13]
 | .corrupt => .tup [.int .i64 0,.int .i64 0,.int .i64 17]
def F_count : List AV → Heap → Option AV
 | [.ptr l 0,.int .i64 m,.int .u8 e],h => match h[l]? with
  | some (.cellsT _ [.str s,.int .i64 _]) => if s.length ≤ big ∧ 0 ≤ m ∧ m ≤ 281474976710656 ∧ 0 ≤ e ∧ e < 256 then some (cntP (cntE m.toNat (UInt8.ofNat e.toNat) s 0 0)) else none
  | _ => none
 | _,_ => none
theorem pcount_L0 (G : Gam) (h : Heap) (l : Nat) (tg : Option TypeId) (er : Int) (s : Bs) (hh : h[l]? = some (.cellsT tg [.str s,.int .i64 er])) (most : Nat) (e : UInt8) (hs : s.length ≤ big) (hm : most ≤ 281474976710656) (r : Cnt) {ks : List MK} :
  ∀ (rest : Bs) (i a : Nat) (z : AV),s.drop i = rest → i ≤ s.length → a ≤ most → (i = 0 → a = 0) → (1 < i → 0 < a) → r = cntE most e rest i a →
  (∀ env a z i,(r = .short ∧ i = s.length ∨ r = .corrupt ∧ i < s.length) → exM G .normal ks (lookQ Rs.q38 (cntP r) h) env [(0,.ptr l 0),(1,.int .i64 most),(2,.int .u8 e.toNat),(6,.int .i64 0),(7,.int .i64 0),(8,.int .i64 0),(9,a),(10,.int .i64 (i : Nat)),(11,z)] h) →
  headM G [11] Mc.q38_L0 h.length (.blk 0 :: ks) (lookQ Rs.q38 (cntP r) h) [(0,.ptr l 0),(1,.int .i64 most),(2,.int .u8 e.toNat),(6,.int .i64 0),(7,.int .i64 0),(8,.int .i64 0),(9,.int .i64 a),(10,.int .i64 i),(11,z)] h
 | [],i,a,z,hd,hi,ha,ha0,ha1,hr,hk => by
  have hi2 := drop_nil hd
  have e1 : i = s.length := by omega
  subst e1
  have hl : ltB (s.length : Int) (s.length : Int) = false := ltB_not.2 (by omega)
  have g0 : loadAV 1 false h (.ptr l 0) = some (.str s) := by simp [loadAV,hh,cut,mkVal]
  simp only [cntE] at hr
  refine head_go (Mc.q38_L0.eq_1) ?_
  simp [vtrunc_len (n := h.length) rfl,lenAV,hh]
  exact hk _ _ _ _ (.inl ⟨hr,rfl⟩)
 | c :: rest,i,a,z,hd,hi,ha,ha0,ha1,hr,hk => by
  obtain ⟨hlt,hx,hxd⟩ := drop_cons hd
  have hl : ltB (i : Int) (s.length : Int) = true := ltB_iff.2 (by omega)
  have g0 : loadAV 1 false h (.ptr l 0) = some (.str s) := by simp [loadAV,hh,cut,mkVal]
  have is : ∀ st h,opV G st h .istr (some [.str s,.int .i64 i]) = some (.int .u8 c.toNat,h) := fun st h => op_istr hx
  have hw : IntKind.i64.wrap ((i : Int) + 1) = ((i + 1 : Nat) : Int) := wrap1 (by omega)
  have hcl := c.toNat_lt
  rw [cntE] at hr
  refine head_go (Mc.q38_L0.eq_1) ?_
  by_cases h1 : c = e ∧ 0 < i
  ·obtain ⟨rfl,hi0⟩ := h1
   have g1 : ltB 0 (i : Int) = true := ltB_iff.2 (by omega)
   rw [if_pos ⟨rfl,hi0⟩] at hr
   subst hr
   simp [vtrunc_len (n := h.length) rfl,lenAV,hl,hh,is,g1,hw,cntP,lookQ,Rs.q38]
  ·rw [if_neg h1] at hr
   obtain ⟨x,hx1⟩ : ∃ x,eqB (c.toNat : Int) (e.toNat : Int) = x := ⟨_,rfl⟩
   obtain ⟨y,hy1⟩ : ∃ y,ltB 0 (i : Int) = y := ⟨_,rfl⟩
   have hxy : (x && y) = false := by
    cases x with
    | false => rfl
    | true =>
     cases y with
     | false => rfl
     | true => exact absurd ⟨UInt8.toNat_inj.1 (by have := eqB_iff.1 hx1; omega),by have := ltB_iff.1 hy1; omega⟩ h1
   by_cases h2 : c.toNat < 48 ∨ 57 < c.toNat ∨ (0 < i ∧ a = 0)
   ·rw [if_pos h2] at hr
    have hk2 := fun env a z => hk env a z i (.inr ⟨hr,hlt⟩)
    by_cases k1 : c.toNat < 48
    ·have e1 : ltB (c.toNat : Int) 48 = true := ltB_iff.2 (by omega)
     cases x <;> cases y <;> first | (cases hxy; done) | (simp [vtrunc_len (n := h.length) rfl,lenAV,hl,hh,is,hx1,hy1,e1]; exact hk2 _ _ _)
    ·have e1 : ltB (c.toNat : Int) 48 = false := ltB_not.2 (by omega)
     by_cases k2 : 57 < c.toNat
     ·have e2 : ltB 57 (c.toNat : Int) = true := ltB_iff.2 (by omega)
      cases x <;> cases y <;> first | (cases hxy; done) | (simp [vtrunc_len (n := h.length) rfl,lenAV,hl,hh,is,hx1,hy1,e1,e2]; exact hk2 _ _ _)
     ·have e2 : ltB 57 (c.toNat : Int) = false := ltB_not.2 (by omega)
      obtain ⟨i0,a0⟩ : 0 < i ∧ a = 0 := by omega
      have i1 : i = 1 := by omega
      subst a0 i1
      have y1 : y = true := by rw [← hy1]; exact ltB_iff.2 (by omega)
      subst y1
      simp at is hl hy1
      cases x <;> first | (cases hxy; done) | (simp [vtrunc_len (n := h.length) rfl,lenAV,hl,hh,is,hx1,e1,e2]; exact hk2 _ _ _)
   ·rw [if_neg h2] at hr
    have e1 : ltB (c.toNat : Int) 48 = false := ltB_not.2 (by omega)
    have e2 : ltB 57 (c.toNat : Int) = false := ltB_not.2 (by omega)
    obtain ⟨y',hy1'⟩ : ∃ y',eqB (i : Int) 1 = y' := ⟨_,rfl⟩
    obtain ⟨z',hz1⟩ : ∃ z',eqB (a : Int) 0 = z' := ⟨_,rfl⟩
    have hyz : (y' && z') = false := by
     cases y' with
     | false => rfl
     | true =>
      cases z' with
      | false => rfl
      | true => exact absurd (.inr (.inr ⟨by have := eqB_iff.1 hy1'; omega,by have := eqB_iff.1 hz1; omega⟩)) h2
    obtain ⟨d,hd2⟩ : ∃ d : Nat,d = c.toNat - 48 := ⟨_,rfl⟩
    rw [← hd2] at hr
    have w1 : IntKind.u8.wrap ((c.toNat : Int) - 48) = (d : Int) := by rw [show (c.toNat : Int) - 48 = (d : Int) by omega]; exact u8_wrap (by omega)
    have w2 : IntKind.i64.wrap (d : Int) = d := i64_in _ ⟨by omega,by omega⟩
    have w3 : IntKind.i64.wrap (10 * (a : Int)) = 10 * (a : Int) := i64_in _ ⟨by omega,by omega⟩
    have w4 : IntKind.i64.wrap (10 * (a : Int) + d) = ((10 * a + d : Nat) : Int) := by rw [show 10 * (a : Int) + d = ((10 * a + d : Nat) : Int) by omega]; exact i64_in _ ⟨by omega,by omega⟩
    by_cases h3 : most < 10 * a + d
    ·rw [if_pos h3] at hr
     have hk2 := fun env a z => hk env a z i (.inr ⟨hr,hlt⟩)
     have e3 : ltB (most : Int) (10 * (a : Int) + d) = true := ltB_iff.2 (by omega)
     cases x <;> cases y <;> cases y' <;> cases z' <;> first | (cases hxy; done) | (cases hyz; done) | (simp [vtrunc_len (n := h.length) rfl,lenAV,hl,hh,is,hx1,hy1,hy1',hz1,e1,e2,e3,w1,w2,w3,w4]; exact hk2 _ _ _)
    ·rw [if_neg h3] at hr
     have e3 : ltB (most : Int) (10 * (a : Int) + d) = false := ltB_not.2 (by omega)
     have ih := pcount_L0 G h l tg er s hh most e hs hm r (ks := ks) rest (i + 1) (10 * a + d) (.int .u8 c.toNat) hxd (by omega) (by omega) (by omega) (by omega) hr hk
     cases x <;> cases y <;> cases y' <;> cases z' <;> first | (cases hxy; done) | (cases hyz; done) | (simp [vtrunc_len (n := h.length) rfl,lenAV,hl,hh,is,hx1,hy1,hy1',hz1,e1,e2,e3,w1,w2,w3,w4,hw]; simpa using ih)
theorem count_ok {G : Gam} : ∀ args h r,F_count args h = some r → wpM G Mc.q38 (lookQ Rs.q38 r h) [] (frInit Ks.q38 args) h := by
 intro args h r hF
 unfold F_count at hF
 split at hF
 ·rename_i l m e
  split at hF
  ·rename_i tg s er hh
   split at hF
   ·rename_i hc
    injection hF with hF; subst hF
    obtain ⟨h1,h2,h3,h4,h5⟩ := hc
    obtain ⟨k,rfl⟩ : ∃ k : Nat,m = k := ⟨m.toNat,by omega⟩
    obtain ⟨E,hE⟩ : ∃ E : UInt8,e = (E.toNat : Int) := ⟨UInt8.ofNat e.toNat,by rw [UInt8.toNat_ofNat']; omega⟩
    subst hE
    have eE : UInt8.ofNat ((E.toNat : Int)).toNat = E := by simp
    rw [eE]
    simp only [Int.toNat_natCast]
    obtain ⟨r,hr⟩ : ∃ r,r = cntE k E s 0 0 := ⟨_,rfl⟩
    rw [← hr,wpM_go]
    have g0 : loadAV 1 false h (.ptr l 0) = some (.str s) := by simp [loadAV,hh,cut,mkVal]
    have ih := pcount_L0 G h l tg er s hh k E h1 (by omega) r (ks := [.seq (.seq (.seq (.reg [⟨none,some 62,false,.mv,[.t 10]⟩,⟨none,some 63,false,.mv,[.t 0]⟩,⟨none,some 64,false,.nilck,[.t 63]⟩,⟨none,some 65,false,.fadr 0,[.t 64]⟩,⟨none,some 66,false,.ld 1 false,[.t 65]⟩,⟨none,some 67,false,.len 0,[.t 66]⟩,⟨none,some 68,false,.bin .eql,[.t 62,.t 67]⟩])
     (.ite (.t 68) (.seq (.reg [⟨none,some 6,true,.mv,[.c (.int .i64 0)]⟩,⟨none,some 7,true,.mv,[.c (.int .i64 0)]⟩,⟨none,some 8,true,.mv,[.c (.int .i64 13)]⟩]) .ret) .skip))
     (.seq (.reg [⟨none,some 6,true,.mv,[.c (.int .i64 0)]⟩,⟨none,some 7,true,.mv,[.c (.int .i64 0)]⟩,⟨none,some 8,true,.mv,[.c (.int .i64 17)]⟩]) .ret))]) s 0 0 .junk rfl (by omega) (by omega) (fun _ => rfl) (by omega) hr (fun env a z i h => by
     rcases h with ⟨rfl,rfl⟩ | ⟨rfl,hi⟩
     ·have q : eqB (s.length : Int) (s.length : Int) = true := eqB_iff.2 rfl
      simp [lenAV,hh,cntP,lookQ,Rs.q38]
     ·have q : eqB (i : Int) (s.length : Int) = false := eqB_not.2 (by omega)
      simp [lenAV,hh,q,cntP,lookQ,Rs.q38])
    simpa [Mc.q38,frInit,Ks.q38] using ih
   ·cases hF
  ·cases hF
 ·cases hF
end Go.Proofs.YtaadifodgahnjaaGreatDoor
namespace Go.Proofs.YtaadifodgahnjaaGreatDoor
open Go.RowKit Go.IntWalk
theorem op_slcs {G : Gam} {st : Bool} {h : Heap} {s : Bs} {i : Nat} (hi : i + 1 ≤ s.length) : opV G st h (.slc none true false false) (some [.str s,.int .i64 ((i : Int) + 1)]) = some (.str (s.drop (i + 1)),h) := by
 rw [opV_quiet rfl]
 have h1 : (0 : Int) ≤ (i : Int) + 1 := by omega
 have h2 : (i : Int) + 1 ≤ (s.length : Int) := by omega
 have h3 : ((i : Int) + 1).toNat = i + 1 := by omega
 simp [evalPure,slcArgs,slc1,slcAV,slcStr,h1,h2,h3]
def rdBlk (tg : Option TypeId) (r : Rd) : Blk := .cellsT tg [.str r.rest,.int .i64 r.err]
def F_fail : List AV → Heap → Option (AV × Heap)
 | [.ptr l 0,.int .i64 e],h => match h[l]? with
  | some (.cellsT tg [.str _,.int .i64 er]) => if er = 0 then some (.tup [],h.set l (rdBlk tg ⟨[],e⟩)) else none
  | _ => none
 | _,_ => none
theorem fail_ok {G : Gam} : ∀ args h r h',F_fail args h = some (r,h') → wpM G Mc.q41 (genQ Rs.q41 r h') [] (frInit Ks.q41 args) h := by
 intro args h r h' hF
 unfold F_fail at hF
 split at hF
 ·rename_i l e
  split at hF
  ·rename_i tg s er hh
   split at hF
   ·rename_i he
    simp only [Option.some.injEq,Prod.mk.injEq] at hF; obtain ⟨rfl,rfl⟩ := hF
    subst he
    have hl : l < h.length := (List.getElem?_eq_some_iff.1 hh).1
    have hs : ∀ b : Blk,(h.set l b)[l]? = some b := fun b => List.getElem?_set_self hl
    rw [wpM_go]
    have g1 : loadAV 1 false h (.ptr l 1) = some (.int .i64 0) := by simp [loadAV,hh,cut,mkVal]
    simp [Mc.q41,frInit,Ks.q41,hh,hs,oneC,AV.cells,setAt,genQ,Rs.q41,resAV,resL,rdBlk]
   ·cases hF
  ·cases hF
 ·cases hF
theorem failR_ok {G : Gam} : ∀ args h r h',F_fail args h = some (r,h') → wpM G Mc.q24 (genQ Rs.q24 r h') [] (frInit Ks.q24 args) h := by
 intro args h r h' hF
 unfold F_fail at hF
 split at hF
 ·rename_i l e
  split at hF
  ·rename_i tg s er hh
   split at hF
   ·rename_i he
    simp only [Option.some.injEq,Prod.mk.injEq] at hF; obtain ⟨rfl,rfl⟩ := hF
    subst he
    have hl : l < h.length := (List.getElem?_eq_some_iff.1 hh).1
    have hs : ∀ b : Blk,(h.set l b)[l]? = some b := fun b => List.getElem?_set_self hl
    rw [wpM_go]
    simp [Mc.q24,frInit,Ks.q24,hh,hs,oneC,AV.cells,setAt,genQ,Rs.q24,resAV,resL,rdBlk]
   ·cases hF
  ·cases hF
 ·cases hF
def F_rdNum : List AV → Heap → Option (AV × Heap)
 | [.ptr l 0,.int .i64 lo,.int .i64 hi],h => match h[l]? with
  | some (.cellsT tg [.str s,.int .i64 er]) => if s.length ≤ 1000000 then some (.int .i64 (rdNum lo hi ⟨s,er⟩).1,h.set l (rdBlk tg (rdNum lo hi ⟨s,er⟩).2)) else none
  | _ => none
 | _,_ => none
theorem rdNum_ok {G : Gam} (hC : G Fn.q38 = some (.gen (lookF F_count))) (hF0 : G Fn.q41 = some (.gen F_fail)) : ∀ args h r h',F_rdNum args h = some (r,h') →
  wpM G Mc.q31 (genQ Rs.q31 r h') [] (frInit Ks.q31 args) h := by
 intro args h r h' hF
 unfold F_rdNum at hF
 split at hF
 ·rename_i l lo hi0
  split at hF
  ·rename_i tg s er hh
   split at hF
   ·rename_i hsz
    simp only [Option.some.injEq,Prod.mk.injEq] at hF; obtain ⟨rfl,rfl⟩ := hF
    have hl : l < h.length := (List.getElem?_eq_some_iff.1 hh).1
    have hs : ∀ b : Blk,(h.set l b)[l]? = some b := fun b => List.getElem?_set_self hl
    have g1 : loadAV 1 false h (.ptr l 1) = some (.int .i64 er) := by simp [loadAV,hh,cut,mkVal]
    have g0 : loadAV 1 false h (.ptr l 0) = some (.str s) := by simp [loadAV,hh,cut,mkVal]
    rw [wpM_go]
    by_cases he : er = 0
    ·subst he
     have cc : opV G false h (.call Fn.q38) (some [.ptr l 0,.int .i64 281474976710656,.int .u8 59]) = some (cntP (cntE 281474976710656 59 s 0 0),h) := by
      have : F_count [.ptr l 0,.int .i64 281474976710656,.int .u8 59] h = some (cntP (cntE 281474976710656 59 s 0 0)) := by
       simp only [F_count,hh]
       rw [if_pos ⟨by unfold big; omega,by omega,by omega,by omega,by omega⟩]
       rfl
      rw [op_call_gen hC]; simp [lookF,this]
     have cf : ∀ e : Int,opV G false h (.call Fn.q41) (some [.ptr l 0,.int .i64 e]) = some (.tup [],h.set l (rdBlk tg ⟨[],e⟩)) := fun e => by
      rw [op_call_gen hF0]; simp [F_fail,hh]
     have q13 : eqB 13 0 = false := rfl
     have q17 : eqB 17 0 = false := rfl
     have q3 : eqB 3 0 = false := rfl
     simp only [rdNum]
     rw [if_neg (by simp)]
     cases hcn : cntE 281474976710656 59 s 0 0 with
     | short =>
      rw [hcn] at cc
      simp [Mc.q31,frInit,Ks.q31,hh,cc,cntP,cf,q13,genQ,Rs.q31]
     | corrupt =>
      rw [hcn] at cc
      simp [Mc.q31,frInit,Ks.q31,hh,cc,cntP,cf,q17,genQ,Rs.q31]
     | ok n i =>
      rw [hcn] at cc
      obtain ⟨k1,k2,k3⟩ := cnt_of hcn
      have hi : i + 1 ≤ s.length := by
       have := congrArg List.length k1
       simp only [List.length_append,List.length_cons,List.length_drop] at this
       omega
      by_cases b1 : (n : Int) < lo
      ·have l1 : ltB (n : Int) lo = true := ltB_iff.2 b1
       simp only
       rw [if_pos (.inl b1)]
       simp [Mc.q31,frInit,Ks.q31,hh,cc,cntP,cf,q3,l1,genQ,Rs.q31]
      ·have l1 : ltB (n : Int) lo = false := ltB_not.2 (by omega)
       by_cases b2 : hi0 < (n : Int)
       ·have l2 : ltB hi0 (n : Int) = true := ltB_iff.2 b2
        simp only
        rw [if_pos (.inr b2)]
        simp [Mc.q31,frInit,Ks.q31,hh,cc,cntP,cf,q3,l1,l2,genQ,Rs.q31]
       ·have l2 : ltB hi0 (n : Int) = false := ltB_not.2 (by omega)
        simp only
        rw [if_neg (by omega)]
        have sl : ∀ st,opV G st h (.slc none true false false) (some [.str s,.int .i64 ((i : Int) + 1)]) = some (.str (s.drop (i + 1)),h) := fun st => op_slcs (by omega)
        simp [Mc.q31,frInit,Ks.q31,hh,cc,cntP,l1,l2,sl,oneC,AV.cells,setAt,rdBlk,genQ,Rs.q31]
    ·have q : eqB er 0 = false := eqB_not.2 he
     have e1 : rdNum lo hi0 ⟨s,er⟩ = (0,⟨s,er⟩) := rdNum_err he
     rw [e1]
     have hst : h.set l (rdBlk tg ⟨s,er⟩) = h := set_here hh
     simp [Mc.q31,frInit,Ks.q31,hh,q,hst,genQ,Rs.q31]
   ·cases hF
  ·cases hF
 ·cases hF
end Go.Proofs.YtaadifodgahnjaaGreatDoor
namespace Go.Proofs.YtaadifodgahnjaaGreatDoor
open Go.RowKit Go.IntWalk
theorem rdNumR_ok {G : Gam} (hC : G Fn.q59 = some (.pure F_Count)) (hF0 : G Fn.q24 = some (.gen F_fail)) : ∀ args h r h',F_rdNum args h = some (r,h') →
  wpM G Mc.q20 (genQ Rs.q20 r h') [] (frInit Ks.q20 args) h := by
 intro args h r h' hF
 unfold F_rdNum at hF
 split at hF
 ·rename_i l lo hi0
  split at hF
  ·rename_i tg s er hh
   split at hF
   ·rename_i hsz
    simp only [Option.some.injEq,Prod.mk.injEq] at hF; obtain ⟨rfl,rfl⟩ := hF
    have hl : l < h.length := (List.getElem?_eq_some_iff.1 hh).1
    have g1 : loadAV 1 false h (.ptr l 1) = some (.int .i64 er) := by simp [loadAV,hh,cut,mkVal]
    have g0 : loadAV 1 false h (.ptr l 0) = some (.str s) := by simp [loadAV,hh,cut,mkVal]
    rw [wpM_go]
    by_cases he : er = 0
    ·subst he
     have cc : ∀ st,opV G st h (.call Fn.q59) (some [.str s,.int .i64 281474976710656,.int .u8 59]) = some (cntR (cntE 281474976710656 59 s 0 0),h) := fun st => by
      have hf : F_Count [.str s,.int .i64 281474976710656,.int .u8 59] = some (cntR (cntE 281474976710656 59 s 0 0)) := by
       simp only [F_Count]
       rw [if_pos ⟨by unfold big; omega,by omega,by omega,by omega,by omega⟩]
       rfl
      exact op_call hC (us := [.str s,.int .i64 281474976710656,.int .u8 59]) rfl hf (.inl (by cases cntE 281474976710656 59 s 0 0 <;> rfl))
     have cf : ∀ e : Int,opV G false h (.call Fn.q24) (some [.ptr l 0,.int .i64 e]) = some (.tup [],h.set l (rdBlk tg ⟨[],e⟩)) := fun e => by
      rw [op_call_gen hF0]; simp [F_fail,hh]
     have qm : ltB (-1) 0 = true := rfl
     simp only [rdNum]
     rw [if_neg (by simp)]
     cases hcn : cntE 281474976710656 59 s 0 0 with
     | short =>
      rw [hcn] at cc
      simp [Mc.q20,frInit,Ks.q20,hh,cc,cntR,cf,qm,genQ,Rs.q20]
     | corrupt =>
      rw [hcn] at cc
      simp [Mc.q20,frInit,Ks.q20,hh,cc,cntR,cf,qm,genQ,Rs.q20]
     | ok n i =>
      rw [hcn] at cc
      obtain ⟨k1,k2,k3⟩ := cnt_of hcn
      have hi : i + 1 ≤ s.length := by
       have := congrArg List.length k1
       simp only [List.length_append,List.length_cons,List.length_drop] at this
       omega
      have qi : ltB (i : Int) 0 = false := ltB_not.2 (by omega)
      by_cases b1 : (n : Int) < lo
      ·have l1 : ltB (n : Int) lo = true := ltB_iff.2 b1
       simp only
       rw [if_pos (.inl b1)]
       simp [Mc.q20,frInit,Ks.q20,hh,cc,cntR,cf,qi,l1,genQ,Rs.q20]
      ·have l1 : ltB (n : Int) lo = false := ltB_not.2 (by omega)
       by_cases b2 : hi0 < (n : Int)
       ·have l2 : ltB hi0 (n : Int) = true := ltB_iff.2 b2
        simp only
        rw [if_pos (.inr b2)]
        simp [Mc.q20,frInit,Ks.q20,hh,cc,cntR,cf,qi,l1,l2,genQ,Rs.q20]
       ·have l2 : ltB hi0 (n : Int) = false := ltB_not.2 (by omega)
        simp only
        rw [if_neg (by omega)]
        have hw : IntKind.i64.wrap ((i : Int) + 1) = (i : Int) + 1 := i64_in _ ⟨by omega,by omega⟩
        have sl : ∀ st,opV G st h (.slc none true false false) (some [.str s,.int .i64 ((i : Int) + 1)]) = some (.str (s.drop (i + 1)),h) := fun st => op_slcs (by omega)
        simp [Mc.q20,frInit,Ks.q20,hh,cc,cntR,qi,l1,l2,hw,sl,oneC,AV.cells,setAt,rdBlk,genQ,Rs.q20]
    ·have q : eqB er 0 = false := eqB_not.2 he
     have e1 : rdNum lo hi0 ⟨s,er⟩ = (0,⟨s,er⟩) := rdNum_err he
     rw [e1]
     have hst : h.set l (rdBlk tg ⟨s,er⟩) = h := set_here hh
     simp [Mc.q20,frInit,Ks.q20,hh,q,hst,genQ,Rs.q20]
   ·cases hF
  ·cases hF
 ·cases hF
end Go.Proofs.YtaadifodgahnjaaGreatDoor
namespace Go.Proofs.YtaadifodgahnjaaGreatDoor
open Go.RowKit Go.IntWalk
def F_CloneS : List AV → Option AV
 | [.str s] => if s.length ≤ 281474976710656 then some (.str s) else none
 | _ => none
def F_rdText : List AV → Heap → Option (AV × Heap)
 | [.ptr l 0,.int .i64 most],h => match h[l]? with
  | some (.cellsT tg [.str s,.int .i64 er]) => if s.length ≤ 1000000 then some (.str (rdText most ⟨s,er⟩).1,h.set l (rdBlk tg (rdText most ⟨s,er⟩).2)) else none
  | _ => none
 | _,_ => none
section
variable {G : Gam} {st : Bool} {h : Heap}
theorem slc_lo {s : Bs} {k : Nat} {m : Int} (hm : m = k) (hi : k ≤ s.length) : opV G st h (.slc none true false false) (some [.str s,.int .i64 m]) = some (.str (s.drop k),h) := by
 subst hm
 rw [opV_quiet rfl]
 have h1 : (k : Int) ≤ (s.length : Int) := by omega
 simp [evalPure,slcArgs,slc1,slcAV,slcStr,h1]
theorem slc_hi {s : Bs} {k : Nat} (hi : k ≤ s.length) : opV G st h (.slc none false true false) (some [.str s,.int .i64 k]) = some (.str (s.take k),h) := by
 rw [opV_quiet rfl]
 have h1 : (k : Int) ≤ (s.length : Int) := by omega
 simp [evalPure,slcArgs,slc1,slcAV,slcStr,h1]
theorem slc_both {s : Bs} {a b : Nat} {m n : Int} (hm : m = a) (hn : n = b) (hab : a ≤ b) (hi : b ≤ s.length) : opV G st h (.slc none true true false) (some [.str s,.int .i64 m,.int .i64 n]) = some (.str ((s.take b).drop a),h) := by
 subst hm hn
 rw [opV_quiet rfl]
 have h1 : (a : Int) ≤ (b : Int) := by omega
 have h2 : (b : Int) ≤ (s.length : Int) := by omega
 simp [evalPure,slcArgs,slc1,slcAV,slcStr,h1,h2]
theorem istr_at {s : Bs} {k : Nat} {m : Int} {c : UInt8} (hm : m = k) (hc : s[k]? = some c) : opV G st h .istr (some [.str s,.int .i64 m]) = some (.int .u8 c.toNat,h) := by
 subst hm; exact op_istr hc
end
theorem rdText_ok {G : Gam} (hC : G Fn.q38 = some (.gen (lookF F_count))) (hF0 : G Fn.q41 = some (.gen F_fail)) (hL : G Fn.q77 = some (.pure F_CloneS)) : ∀ args h r h',F_rdText args h = some (r,h') →
  wpM G Mc.q40 (genQ Rs.q40 r h') [] (frInit Ks.q40 args) h := by
 intro args h r h' hF
 unfold F_rdText at hF
 split at hF
 ·rename_i l most
  split at hF
  ·rename_i tg s er hh
   split at hF
   ·rename_i hsz
    simp only [Option.some.injEq,Prod.mk.injEq] at hF; obtain ⟨rfl,rfl⟩ := hF
    have hl : l < h.length := (List.getElem?_eq_some_iff.1 hh).1
    have g1 : loadAV 1 false h (.ptr l 1) = some (.int .i64 er) := by simp [loadAV,hh,cut,mkVal]
    have g0 : loadAV 1 false h (.ptr l 0) = some (.str s) := by simp [loadAV,hh,cut,mkVal]
    rw [wpM_go]
    by_cases he : er = 0
    ·subst he
     have cc : opV G false h (.call Fn.q38) (some [.ptr l 0,.int .i64 65536,.int .u8 58]) = some (cntP (cntE 65536 58 s 0 0),h) := by
      have : F_count [.ptr l 0,.int .i64 65536,.int .u8 58] h = some (cntP (cntE 65536 58 s 0 0)) := by
       simp only [F_count,hh]
       rw [if_pos ⟨by unfold big; omega,by omega,by omega,by omega,by omega⟩]
       rfl
      rw [op_call_gen hC]; simp [lookF,this]
     have cf : ∀ e : Int,opV G false h (.call Fn.q41) (some [.ptr l 0,.int .i64 e]) = some (.tup [],h.set l (rdBlk tg ⟨[],e⟩)) := fun e => by
      rw [op_call_gen hF0]; simp [F_fail,hh]
     have cl : ∀ (t : Bs),t.length ≤ s.length → ∀ st h,opV G st h (.call Fn.q77) (some [.str t]) = some (.str t,h) := fun t ht st h => op_call hL (us := [.str t]) rfl (by show (if _ then _ else _) = _; rw [if_pos (by omega)]) (.inl rfl)
     have q13 : eqB 13 0 = false := rfl
     have q17 : eqB 17 0 = false := rfl
     have q10 : eqB 10 0 = false := rfl
     simp only [rdText]
     rw [if_neg (by simp)]
     cases hcn : cntE 65536 58 s 0 0 with
     | short =>
      rw [hcn] at cc
      simp [Mc.q40,frInit,Ks.q40,hh,cc,cntP,cf,q13,genQ,Rs.q40]
     | corrupt =>
      rw [hcn] at cc
      simp [Mc.q40,frInit,Ks.q40,hh,cc,cntP,cf,q17,genQ,Rs.q40]
     | ok n i =>
      rw [hcn] at cc
      obtain ⟨k1,k2,k3⟩ := cnt_of hcn
      have hi : i + 1 ≤ s.length := by
       have := congrArg List.length k1
       simp only [List.length_append,List.length_cons,List.length_drop] at this
       omega
      have w1 : IntKind.i64.wrap ((i : Int) + 1 + n) = (i : Int) + 1 + n := i64_in _ ⟨by omega,by omega⟩
      have w2 : IntKind.i64.wrap ((i : Int) + 1 + n + 1) = (i : Int) + 1 + n + 1 := i64_in _ ⟨by omega,by omega⟩
      have hget : (s.drop (i + 1))[n]? = s[i + 1 + n]? := by rw [List.getElem?_drop]
      dsimp only
      rw [hget]
      by_cases b0 : s.length ≤ i + 1 + n
      ·have l0 : ltB ((i : Int) + 1 + n) (s.length : Int) = false := ltB_not.2 (by omega)
       rw [List.getElem?_eq_none b0]
       simp [Mc.q40,frInit,Ks.q40,hh,lenAV,cc,cntP,cf,q13,w1,l0,genQ,Rs.q40]
      ·have l0 : ltB ((i : Int) + 1 + n) (s.length : Int) = true := ltB_iff.2 (by omega)
       obtain ⟨c,hc⟩ : ∃ c,s[i + 1 + n]? = some c := ⟨_,List.getElem?_eq_getElem (by omega)⟩
       rw [hc]
       have is : ∀ st h,opV G st h .istr (some [.str s,.int .i64 ((i : Int) + 1 + n)]) = some (.int .u8 c.toNat,h) := fun st h => istr_at (k := i + 1 + n) (by omega) hc
       by_cases b1 : c = 44
       ·subst b1
        have l1 : eqB (((44 : UInt8).toNat : Nat) : Int) 44 = true := rfl
        by_cases b2 : most < (n : Int)
        ·have l2 : ltB most (n : Int) = true := ltB_iff.2 b2
         simp only [ne_eq,not_true_eq_false,if_false,if_pos b2]
         simp [Mc.q40,frInit,Ks.q40,hh,lenAV,cc,cntP,cf,q10,w1,l0,is,l2,genQ,Rs.q40]
        ·have l2 : ltB most (n : Int) = false := ltB_not.2 (by omega)
         simp only [ne_eq,not_true_eq_false,if_false,if_neg b2]
         have s2 : ∀ st,opV G st h (.slc none true true false) (some [.str s,.int .i64 ((i : Int) + 1),.int .i64 ((i : Int) + 1 + n)]) = some (.str ((s.drop (i + 1)).take n),h) := fun st => by
          rw [slc_both (a := i + 1) (b := i + 1 + n) (by omega) (by omega) (by omega) (by omega),List.drop_take]
          rw [show i + 1 + n - (i + 1) = n by omega]
         have s3 : ∀ st,opV G st h (.slc none true false false) (some [.str s,.int .i64 ((i : Int) + 1 + n + 1)]) = some (.str ((s.drop (i + 1)).drop (n + 1)),h) := fun st => by
          rw [slc_lo (k := i + 1 + n + 1) (by omega) (by omega),List.drop_drop]
          rw [show i + 1 + (n + 1) = i + 1 + n + 1 by omega]
         have cl2 := cl ((s.drop (i + 1)).take n) (by simp only [List.length_take,List.length_drop]; omega)
         simp only [List.drop_drop] at s3 ⊢
         simp [Mc.q40,frInit,Ks.q40,hh,lenAV,cc,cntP,w1,w2,l0,is,l2,s2,s3,cl2,oneC,AV.cells,setAt,rdBlk,genQ,Rs.q40]
       ·have l1 : eqB (c.toNat : Int) 44 = false := eqB_not.2 fun e => b1 (UInt8.toNat_inj.1 (by simp; omega))
        simp only [ne_eq,b1,not_false_eq_true,if_true]
        simp [Mc.q40,frInit,Ks.q40,hh,lenAV,cc,cntP,cf,q17,w1,l0,is,l1,genQ,Rs.q40]
    ·have q : eqB er 0 = false := eqB_not.2 he
     have e1 : rdText most ⟨s,er⟩ = ([],⟨s,er⟩) := rdText_err he
     rw [e1]
     have hst : h.set l (rdBlk tg ⟨s,er⟩) = h := set_here hh
     simp [Mc.q40,frInit,Ks.q40,hh,q,hst,genQ,Rs.q40]
   ·cases hF
  ·cases hF
 ·cases hF
end Go.Proofs.YtaadifodgahnjaaGreatDoor
