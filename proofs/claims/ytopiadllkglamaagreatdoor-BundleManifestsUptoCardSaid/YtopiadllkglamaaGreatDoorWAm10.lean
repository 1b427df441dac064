/- Calls of the standard library that hand back new slices: Split; Repeat. Loops over functions,in proofs over the small language. What lies low: for loops,and functions that forget what they have made -/
import Derived.Test.YtopiadllkglamaaGreatDoorWAm9
import Derived.Shelf.Strings.Split
import Derived.Lib.Repeat
namespace Go.Proofs.YtopiadllkglamaaGreatDoor
open Go.RowKit Go.IntWalk
def rStr : REnc Bs := rOne eStr
@[simp] theorem wh6 (s : Bs) : rStr.enc s = [.str s] := rfl
def za9 (c : UInt8) : Bs → List Bs
 | [] => [[]]
 | b :: r => if b = c then [] :: za9 c r else match za9 c r with
  | p :: ps => (b :: p) :: ps
  | [] => [[b]]
theorem zq2 (c : UInt8) : ∀ s,za9 c s ≠ []
 | [] => by simp [za9]
 | b :: r => by
  unfold za9; split
  ·simp
  ·split <;> simp
theorem yt0 (c : UInt8) : ∀ s : Bs,Lib.splitK [c] 0 (Lib.count s [c]) s = za9 c s
 | [] => by simp [Lib.count_one,Lib.splitK,za9]
 | b :: r => by
  have ih := yt0 c r
  by_cases h : b = c
  ·subst h
   have hix : Lib.index (b :: r) [b] = 0 := by rw [Lib.index_one]; simp [Lib.indexByte]
   rw [Lib.count_cons_eq,Nat.add_comm 1]
   simp only [Lib.splitK,hix]
   simp [ih,za9]
  ·rw [Lib.count_cons_ne b c r h]
   have hix : Lib.index (b :: r) [c] = if Lib.index r [c] == -1 then -1 else Lib.index r [c] + 1 := by
    rw [Lib.index_one,Lib.index_one]; simp [Lib.indexByte,h]
   simp only [za9,h,if_false]
   cases hk : Lib.count r [c] with
   | zero =>
    rw [hk] at ih
    simp only [Lib.splitK] at ih ⊢
    rw [← ih]
   | succ k =>
    rw [hk] at ih
    simp only [Lib.splitK] at ih ⊢
    rw [hix]
    by_cases hm : Lib.index r [c] = -1
    ·simp only [hm,BEq.rfl,if_true] at ih ⊢
     rw [← ih]
    ·have hge := Lib.index_ge r [c]
     have hm' : (Lib.index r [c] == -1) = false := by simp [hm]
     have hm2 : (Lib.index r [c] + 1 == -1) = false := by simp; omega
     simp only [hm',Bool.false_eq_true,if_false,hm2] at ih ⊢
     rw [← ih]
     have e : (Lib.index r [c] + 1).toNat = (Lib.index r [c]).toNat + 1 := by omega
     simp [e]
theorem yU1 {P : Program} {gv : Gv} {f : FuncId} {F : List AV → Option AV} {ty : TypeId}
  (hF : ∀ (I : Nat → Nat → Option Value) (w : World) (args : List AV) (r : AV) (vals : Array Value),Holds I w → GvHolds gv I w → RelL (Cx.pure I) args vals.toList → F args = some r →
   ∃ ss : List Bs,r = .sl (ss.map rStr.enc) ∧ Calls P f vals w fun e w' => e = .returned (.slice (some ⟨w.heap.size,0,none⟩) ss.length ss.length) ∧ w' = w.alloc (.cells ((ss.map fun s => Value.string ⟨s.toArray⟩).toArray) ty)) : zd0 P gv f F := by
 intro I w args r vals hI hgl hr hF'
 obtain ⟨ss,rfl,hc⟩ := hF I w args r vals hI hgl hr hF'
 refine hc.mono fun e w' hk => ?_
 obtain ⟨rfl,rfl⟩ := hk
 have hnew : (w.alloc (.cells ((ss.map fun s => Value.string ⟨s.toArray⟩).toArray) ty)).heap[w.heap.size]? = some (.cells ((ss.map fun s => Value.string ⟨s.toArray⟩).toArray) ty (0,0)) := heap_alloc_new w _
 have hlt : ∀ b o u,I b o = some u → b < w.heap.size := fun b o u hu => zv0 (hI.cell b o u hu)
 refine ⟨_,fun b o => if b = w.heap.size then (ss[o]?).map (fun s => Value.string ⟨s.toArray⟩) else I b o,rfl,⟨fun b o u hu => ?_,fun b o u hu hb => ?_⟩,⟨fun b o u hu => ?_,fun b o u hu => ?_⟩,?_,zc1 w _⟩
 ·show (if b = w.heap.size then _ else _) = _
  rw [if_neg (by have := hlt b o u hu; omega)]; exact hu
 ·replace hu : (if b = w.heap.size then (ss[o]?).map (fun s => Value.string ⟨s.toArray⟩) else I b o) = some u := hu
  rw [if_neg (by omega)] at hu; exact hu
 ·replace hu : (if b = w.heap.size then (ss[o]?).map (fun s => Value.string ⟨s.toArray⟩) else I b o) = some u := hu
  split at hu
  ·rename_i e; subst e
   rw [ze3 hnew]
   obtain ⟨s,h1,rfl⟩ := Option.map_eq_some_iff.1 hu
   simp [h1]
  ·have h1 := hI.cell b o u hu
   rw [Below.cell (zc1 w _) (p := ⟨b,o,none⟩) (zv0 h1)]; exact h1
 ·replace hu : (if b = w.heap.size then (ss[o]?).map (fun s => Value.string ⟨s.toArray⟩) else I b o) = some u := hu
  split at hu
  ·obtain ⟨s,h1,rfl⟩ := Option.map_eq_some_iff.1 hu
   rfl
  ·exact hI.one b o u hu
 ·have hl : ss.length = (ss.map rStr.enc).length := by simp
  rw [hl]
  refine .sl _ w.heap.size 0 _ 1 (fun i _ => .string ⟨((ss[i]?).getD []).toArray⟩) (Nat.le_refl _) (fun i row h => ?_) (fun i row j c h1 h2 => ?_) (fun i row j c h1 h2 => ?_)
  ·simp only [List.getElem?_map,Option.map_eq_some_iff] at h
   obtain ⟨s,_,rfl⟩ := h; rfl
  ·simp only [List.getElem?_map,Option.map_eq_some_iff] at h1
   obtain ⟨s,h3,rfl⟩ := h1
   have hj : j = 0 := by cases j with
    | zero => rfl
    | succ j => simp at h2
   subst hj
   simp [Cx.pure,h3]
  ·simp only [List.getElem?_map,Option.map_eq_some_iff] at h1
   obtain ⟨s,h3,rfl⟩ := h1
   have hj : j = 0 := by cases j with
    | zero => rfl
    | succ j => simp at h2
   subst hj
   simp at h2; subst h2
   simp only [h3,Option.getD_some]
   exact .str s
def zB5 : List AV → Option AV := F2 eStr eStr (eSl rStr) fun s sep => match sep with
 | [c] => if s.length < 4294967281 then some (za9 c s) else none
 | _ => none
theorem yS9 {P : Program} {gv : Gv} {f : FuncId} {ty g : Nat} {m : Int} (hg : gv g = some [.int .i64 m])
  (hc : ∀ (s sep : ByteArray) (w : World),s.size < 4294967281 → w.cell? ⟨g,0,none⟩ = some (.int .i64 m) → 1 ≤ sep.size →
   Calls P f #[.string s,.string sep] w fun e w' => e = .returned (.slice (some ⟨w.heap.size,0,none⟩) (Lib.countB s sep + 1) (Lib.countB s sep + 1)) ∧ w' = w.alloc (.cells ((Lib.splitB sep 0 (Lib.countB s sep) s).map Value.string).toArray ty)) : zd0 P gv f zB5 := by
 refine yU1 (ty := ty) fun I w args r vals hI hgl hr hF => ?_
 obtain ⟨s,sep,ss,rfl,h,rfl⟩ := wg0 hF
 split at h
 ·rename_i c
  split at h
  ·rename_i hs
   injection h with h; subst h
   refine ⟨za9 c s,rfl,?_⟩
   obtain ⟨v1,us1,e1,h1,hr⟩ := hr.inv_cons
   obtain ⟨v2,us2,rfl,h2,hr⟩ := hr.inv_cons
   have := hr.inv_nil; subst this
   have := zd7 h1; subst this
   have := zd7 h2; subst this
   have hv : vals = #[.string ⟨s.toArray⟩,.string ⟨[c].toArray⟩] := by apply Array.ext'; simpa using e1
   subst hv
   have hm : w.cell? ⟨g,0,none⟩ = some (.int .i64 m) := by
    have := hgl.gl g _ hg
    cases this with
    | fptr _ _ b o us k1 k2 =>
     have e := k2 0 (.int .i64 m) rfl
     have := zd4 e
     have c0 := hI.cell _ _ _ (k1 0 (.int .i64 m) rfl)
     rw [this] at c0
     simpa using c0
   have hc' := hc ⟨s.toArray⟩ ⟨[c].toArray⟩ w (by rw [zn3]; exact hs) hm (by rw [zn3]; simp)
   have hall := Lib.splitB_all (⟨[c].toArray⟩ : ByteArray) (by rw [zn3]; simp) 0 _ ⟨s.toArray⟩ rfl
   have hd : (Lib.splitB ⟨[c].toArray⟩ 0 (Lib.countB ⟨s.toArray⟩ ⟨[c].toArray⟩) ⟨s.toArray⟩).map (·.data.toList) = za9 c s := by
    rw [Lib.splitB_data]; exact yt0 c s
   have hcells : (Lib.splitB ⟨[c].toArray⟩ 0 (Lib.countB ⟨s.toArray⟩ ⟨[c].toArray⟩) ⟨s.toArray⟩).map Value.string = (za9 c s).map fun s => Value.string ⟨s.toArray⟩ := by
    rw [← hd,List.map_map]; rfl
   have hlen : (za9 c s).length = Lib.countB ⟨s.toArray⟩ ⟨[c].toArray⟩ + 1 := by rw [← hd,List.length_map]; exact hall
   rw [hcells,← hlen] at hc'
   exact hc'
  ·cases h
 ·cases h
end Go.Proofs.YtopiadllkglamaaGreatDoor
namespace Go.Proofs.YtopiadllkglamaaGreatDoor
open Go.RowKit Go.IntWalk
section
variable {G : Gam} {ks : List MK} {Q : zc4} {env fr : List (Nat × AV)} {h : Heap}
theorem xD9 {Y : Nat → List AV → Heap → Option (AV × Heap)} {k : Nat} {args : List AV} : opV { G with y := Y } false h .callv (some (.yld k :: args)) = Y k args h := rfl
@[simp] theorem wh2 {Y : Nat → List AV → Heap → Option (AV × Heap)} {f : FuncId} : ({ G with y := Y } : Gam).fn f = G.fn f := rfl
theorem yN6 {l : Nat} {v : AV} (hl : h[l]? = some (.cells [v])) : za8 1 false h (.ptr l 0) = some v := by
 simp [za8,hl,cut,zd8]
def rndM (G : Gam) (a b : MC) (ps : List Nat) (fr : List (Nat × AV)) (k : Nat) (args : List AV) (h : Heap) (K : MX → Heap → Prop) : Prop := zv7 (wpM G a) (wpM G b) ps fr k args h K
def RgM (G : Gam) (F : RdF) (a b : MC) (ps : List Nat) (fr : List (Nat × AV)) (k j : Nat) (h : Heap) (Q : MX → Heap → Prop) : Prop := ∃ N,rgM F (rndM G a b ps fr k) k Q N j h
theorem wa9 {g : At} {ps : List Nat} {a b : MC} {f : FuncId} {caps : List AV} {F : ItF} (hg : getA (getT env fr) g = some (.fn f caps)) (hF : G f = some (.iter F))
  (hq : RgM G (F caps (h ++ [.lp false .normal])) a b ps fr h.length 0 (h ++ [.lp false .normal]) (fun x h => exM G x ks Q env fr h)) : goM G (.rgf g ps a b) ks Q env fr h := by
 show wpM G _ _ env fr h
 simp only [wpM,hg,hF]
 exact hq
theorem xJ4 {F : RdF} {a b : MC} {ps : List Nat} {k j : Nat} {Q : MX → Heap → Prop} {h1 : Heap} (hF : F j h = some (none,h1)) (hk : h1[k]? = some (.lp false .normal)) (hq : Q .normal (h1.set k .dead)) : RgM G F a b ps fr k j h Q := by
 refine ⟨1,?_⟩
 simp only [rgM,hF]
 exact ⟨hk,hq⟩
theorem xu7 {F : RdF} {a b : MC} {ps : List Nat} {k j : Nat} {Q : MX → Heap → Prop} {h1 : Heap} {args : List AV} (hF : F j h = some (some args,h1))
  (hq : rndM G a b ps fr k args h1 fun x h2 => match x with
   | .normal => RgM G F a b ps fr k (j + 1) h2 Q
   | x => Q x (h2.set k .dead)) : RgM G F a b ps fr k j h Q := by
 have hfin : ∀ args h,FinP fun Q : MX × Heap → Prop => rndM G a b ps fr k args h fun x h => Q (x,h) := fun args h => yu4 (zn2 a) (zn2 b)
 obtain ⟨L,k1,k2⟩ := hfin args h1 (fun o => match o.1 with
   | .normal => RgM G F a b ps fr k (j + 1) o.2 Q
   | x => Q x (o.2.set k .dead)) hq
 have hN : ∀ L : List (MX × Heap),(∀ o ∈ L,match o.1 with
   | .normal => RgM G F a b ps fr k (j + 1) o.2 Q
   | x => Q x (o.2.set k .dead)) → ∃ N,∀ o ∈ L,match o.1 with
   | .normal => rgM F (rndM G a b ps fr k) k Q N (j + 1) o.2
   | x => Q x (o.2.set k .dead) := by
  intro L
  induction L with
  | nil => intro _; exact ⟨0,by simp⟩
  | cons o L ih =>
   intro hL
   obtain ⟨N,hN⟩ := ih fun p hp => hL p (by simp [hp])
   have ho := hL o (by simp)
   obtain ⟨x,h2⟩ := o
   cases x with
   | normal =>
    obtain ⟨M,hM⟩ := ho
    refine ⟨max N M,fun p hp => ?_⟩
    rcases List.mem_cons.1 hp with rfl | hp
    ·exact xb5 hfin M _ _ _ (Nat.le_max_right _ _) hM
    ·have := hN p hp
     obtain ⟨x,h2⟩ := p
     cases x with
     | normal => exact xb5 hfin N _ _ _ (Nat.le_max_left _ _) this
     | exit i => exact this
     | ret => exact this
   | exit i =>
    refine ⟨N,fun p hp => ?_⟩
    rcases List.mem_cons.1 hp with rfl | hp
    ·exact ho
    ·exact hN p hp
   | ret =>
    refine ⟨N,fun p hp => ?_⟩
    rcases List.mem_cons.1 hp with rfl | hp
    ·exact ho
    ·exact hN p hp
 obtain ⟨N,hN⟩ := hN L k1
 exact ⟨N + 1,by simp only [rgM,hF]; exact k2 (fun o => match o.1 with
   | .normal => rgM F (rndM G a b ps fr k) k Q N (j + 1) o.2
   | x => Q x (o.2.set k .dead)) hN⟩
def we4 (k : Nat) (K : MX → Heap → Prop) : zc4 := fun x _ _ h => h[k]? = some (.lp true .normal) ∧ K x (h.set k (.lp false x))
def asgQ (G : Gam) (b : MC) (k : Nat) (K : MX → Heap → Prop) : zc4 := fun x _ fr h => match x with
 | .normal => h[k]? = some (.lp false .normal) ∧ goM G b [] (we4 k K) [] fr (h.set k (.lp true .normal))
 | _ => False
theorem xX1 {a b : MC} {ps : List Nat} {k : Nat} {args : List AV} {K : MX → Heap → Prop} (hk : h[k]? = some (.lp false .normal)) (hl : args.length = ps.length) (hq : goM G a [] (asgQ G b k K) [] (zG5 ps args fr) h) : rndM G a b ps fr k args h K := by
 refine ⟨hk,hl,yk0 hq fun x e f h hh => ?_⟩
 cases x with
 | normal => exact hh
 | exit i => exact hh
 | ret => exact hh
end
end Go.Proofs.YtopiadllkglamaaGreatDoor
namespace Go.Proofs.YtopiadllkglamaaGreatDoor
open Go.RowKit
mutual
theorem yN2 {n m : Nat} (hnm : n ≤ m) : ∀ {v : AV},low n v = true → low m v = true
 | .own l _ _,h => by simp only [low,decide_eq_true_eq] at h ⊢; omega
 | .ptr l _,h => by simp only [low,decide_eq_true_eq] at h ⊢; omega
 | .eptr l _ _ _,h => by simp only [low,decide_eq_true_eq] at h ⊢; omega
 | .map l,h => by simp only [low,decide_eq_true_eq] at h ⊢; omega
 | .yld l,h => by simp only [low,decide_eq_true_eq] at h ⊢; omega
 | .agg cs,h => by simp only [low] at h ⊢; exact zP0 hnm h
 | .tup cs,h => by simp only [low] at h ⊢; exact zP0 hnm h
 | .fn _ cs,h => by simp only [low] at h ⊢; exact zP0 hnm h
 | .mth _ v,h => by simp only [low] at h ⊢; exact yN2 hnm h
 | .iface _ v,h => by simp only [low] at h ⊢; exact yN2 hnm h
 | .bool _,_ => rfl
 | .int _ _,_ => rfl
 | .str _,_ => rfl
 | .sl _,_ => rfl
 | .tsl _,_ => rfl
 | .nils,_ => rfl
 | .fptr _ _,_ => rfl
 | .gptr _ _,_ => rfl
 | .nilp,_ => rfl
 | .nilm,_ => rfl
 | .nilf,_ => rfl
 | .nili,_ => rfl
 | .junk,_ => rfl
theorem zP0 {n m : Nat} (hnm : n ≤ m) : ∀ {vs : List AV},lowL n vs = true → lowL m vs = true
 | [],_ => rfl
 | v :: vs,h => by
  simp only [lowL,Bool.and_eq_true] at h ⊢
  exact ⟨yN2 hnm h.1,zP0 hnm h.2⟩
end
theorem yf6 {n m : Nat} (hnm : n ≤ m) : ∀ {rs : List (List AV)},zx6 n rs = true → zx6 m rs = true
 | [],_ => rfl
 | r :: rs,h => by
  simp only [zx6,Bool.and_eq_true] at h ⊢
  exact ⟨zP0 hnm h.1,yf6 hnm h.2⟩
theorem xL1 {n m : Nat} (hnm : n ≤ m) {b : Blk} (h : lowB n b = true) : lowB m b = true := by
 cases b with
 | cellsT tg vs => exact zP0 hnm h
 | arrX ne tg sz ver rows wr =>
  cases ne with
  | false => rfl
  | true => exact yf6 hnm h
 | mit k q seen last =>
  cases k with
  | none => rfl
  | some k => simp only [lowB,decide_eq_true_eq] at h ⊢; omega
 | _ => rfl
theorem xL0 {n m : Nat} (hnm : n ≤ m) {h : Heap} (k : lowH n h = true) : lowH m h = true := yn4 fun _ _ hb => xL1 hnm (zM2 k hb)
theorem xx4 {n : Nat} {a b : Heap} (h1 : lowH n a = true) (h2 : lowH n b = true) : lowH n (a ++ b) = true := by
 refine yn4 fun i c hc => ?_
 rw [List.getElem?_append] at hc
 split at hc
 ·exact zM2 h1 hc
 ·exact zM2 h2 hc
theorem yY8 {n : Nat} {fr : List (Nat × AV)} {a b : Heap} (hn : a.length = n) (hf : zm1 n fr = true) (ha : lowH n a = true) : trunc n fr (a ++ b) = a := by
 have ht : (a ++ b).take n = a := by subst hn; simp
 unfold trunc
 rw [ht,hf,ha]; rfl
theorem yV4 {a b : Heap} : yQ3 a (a ++ b) := ⟨by simp,fun l c hc => .inr (by rw [List.getElem?_append_left (List.getElem?_eq_some_iff.1 hc).1]; exact hc)⟩
end Go.Proofs.YtopiadllkglamaaGreatDoor
