/- slices.Grow of strings at this program: the shelf's contract,turned. slices.SortFunc of files by their paths: the shelf's contract,turned. slices.SortFunc of files by their paths at this program. -/
import Derived.Test.YtopiadllkglamaaGreatDoorChecked
import Derived.Test.YtopiadllkglamaaGreatDoorWRmJ
import Derived.Test.YtopiadllkglamaaGreatDoorWShelf
import Derived.Shelf.Spec.SlicesGrow
import Derived.KernelRfl
import Derived.Sort.LotA
import Derived.Lib.Bytealg
import Derived.Shelf.SlSortCmp.WholeK
import Derived.Test.YtopiadllkglamaaGreatDoorWRmM
import Derived.Shelf.SlSortCmp.NoneTotal
import Derived.WalkKit
namespace Go.Proofs.YtopiadllkglamaaGreatDoor
open Go.RowKit
theorem xL8 : ∃ (i0 : TypeInfo) (z : Value),Tryz.prog.info? 9 = some i0 ∧ i0.zero = some z ∧ i0.size = 1 ∧ i0.bytes = 16 ∧ z.cells.size = 1 :=
  ⟨(Tryz.prog.info? 9).getD default,(((Tryz.prog.info? 9).getD default).zero).getD (.bool false),by kernel_rfl,by kernel_rfl,by kernel_rfl,by kernel_rfl,by kernel_rfl⟩
theorem xg1 (gv : Gv) : zl3 Tryz.prog gv 193 (yr0 1) := by
  obtain ⟨i0,z,hi,hz,hs,hb,hzs⟩ := xL8
  refine xz0 (e := 9) (fun n w h0 h1 => ?_) fun w => ?_
  · refine (Any8.slices_Grow_grow Tryz.grow193 i0 z hi hz (by omega) none 0 0 n [] w (Nat.le_refl _) (by omega) (by rw [hb]; omega) (by omega) (by simp) (fun _ => rfl) (fun a e => by cases e)).mono fun o w' hk => ?_
    obtain ⟨rfl,rfl⟩ := hk
    have hge := grownCap_ge w (0 + n) 0 9
    have hle := grownCap_le_maxLen w (0 + n) 0 9 (by unfold maxLen; omega)
    refine ⟨_,_,rfl,zo0 _ _,?_,hle,zt3 w _⟩
    have e25 : Tryz.grow193_ren.t 25 = 9 := rfl
    simp only [Array.size_append,size_zeroCells,hzs,e25,Nat.zero_add] at hge ⊢
    simp
    omega
  · refine (Any8.slices_Grow_room Tryz.grow193 none 0 0 0 w (Nat.le_refl _) (by omega) (by omega) (by omega)).mono fun o w' hk => ?_
    obtain ⟨rfl,rfl⟩ := hk
    exact ⟨rfl,rfl⟩
end Go.Proofs.YtopiadllkglamaaGreatDoor
namespace Go.Proofs.YtopiadllkglamaaGreatDoor
open Go.RowKit
theorem xF9 : ∀ a b : Bs,decide (Lib.compareBytes a b < 0) = decide (a < b)
  | [],[] => by simp [Lib.compareBytes]
  | [],_ :: _ => by simp [Lib.compareBytes]
  | _ :: _,[] => by simp [Lib.compareBytes]
  | a :: x,b :: y => by
    have ih := xF9 x y
    simp only [Lib.compareBytes,List.cons_lt_cons_iff]
    by_cases h1 : a < b
    · simp [h1]
    · by_cases h2 : b < a
      · have h3 : ¬ a = b := fun e => by subst e; exact h1 h2
        simp [h1,h2,h3]
      · have h3 : a = b := UInt8.le_antisymm (UInt8.not_lt.1 h2) (UInt8.not_lt.1 h1)
        subst h3
        simpa [h1] using ih
def cfP (x y : PD) : Int := Lib.compareBytes x.1 y.1
theorem ltP (x y : PD) : Go.Proofs.ltOf cfP x y = Go.Sort.ltStr x.1 y.1 := xF9 x.1 y.1
theorem swoP : Go.Sort.SWO (Go.Proofs.ltOf cfP) where
  irrefl x := by rw [ltP]; exact Go.Sort.swo_ltStr.irrefl x.1
  trans x y z h1 h2 := by rw [ltP] at h1 h2 ⊢; exact Go.Sort.swo_ltStr.trans _ _ _ h1 h2
  ntrans x y z h1 h2 := by rw [ltP] at h1 h2 ⊢; exact Go.Sort.swo_ltStr.ntrans _ _ _ h1 h2
theorem yy3 (w : World) (b : Nat) (d : Array Value) (k : Nat) : (Go.Sort.putRow id w b 0 d).heap[k]? = if b = k then (w.heap[k]?).map (Go.Sort.onCells (Go.Sort.putCells id 0 d)) else w.heap[k]? := by
  simp only [Go.Sort.putRow,Go.Sort.mapBlock]
  rw [Array.getElem?_modify]
theorem yY7 {B : Base} {C : Cx} {h : Heap} {w w' : World} (hi : Inv B C h w) {l ver sz : Nat} {rows rows' : List (List AV)} {F : Array Value} {r : RowAt} (hl : h[l]? = some (.arr sz ver rows true)) (har : C.ar l ver = some (some r)) (hlen : rows'.length = rows.length)
    (hrow : ∀ x ∈ rows',x.length = sz) (hrel : RelL (Cx.pure C.im) rows'.flatten F.toList) (hone : ∀ u ∈ F.toList,u.oneCell' = true)
    (hos : w'.os = w.os) (ht : w'.tape = w.tape) (ho : w'.output = w.output) {os : Array Obj} (hh : w'.heap = (Go.Sort.putRow id w r.block 0 F).heap ++ os) :
    Inv B C (h.set l (.arr sz ver rows' true)) w' ∧ Keep B w w' := by
  have hsize : (Go.Sort.putRow id w r.block 0 F).heap.size = w.heap.size := by simp
  have hget : ∀ k,k < w.heap.size → w'.heap[k]? = if r.block = k then (w.heap[k]?).map (Go.Sort.onCells (Go.Sort.putCells id 0 F)) else w.heap[k]? := fun k hk => by
    rw [hh,Array.getElem?_append_left (by rw [hsize]; exact hk),yy3]
  have hle : w.heap.size ≤ w'.heap.size := by rw [hh,Array.size_append,hsize]; omega
  rcases hi.ok l _ hl with ⟨k1,_⟩ | ⟨r',cur,k1,k2,k3,k4,k5,k6,k7,k8,k8',k9,k10,k11,k12⟩
  · rw [har] at k1; cases k1
  rw [har] at k1; injection k1 with k1; injection k1 with k1; subst k1
  have hb : r.block < w.heap.size := zg6 k6
  have hnew : w'.heap[r.block]? = some (.cells (Go.Sort.putCells id 0 F cur) r.elem r.fz) := by
    rw [hget _ hb,if_pos rfl,k6]; rfl
  have hoth : ∀ k,k < w.heap.size → k ≠ r.block → w'.heap[k]? = w.heap[k]? := fun k hk hne => by rw [hget k hk,if_neg (fun e => hne e.symm)]
  refine ⟨hi.turn hl (.refl C) hle (fun b hb' hbl => ⟨hoth b hbl (fun e => hb' (by simp [za6,har,e])),fun _ => rfl⟩) (fun b o u hu => ?_) hi.one ?_ (fun b hb => .inl hb) hi.fr (xq8 hi hl),⟨⟨hos,ht,ho,hle,fun k hk => hoth k (by have := hi.hB; omega) (by omega)⟩,fun k c hk => (hoth k (zg6 hk) (fun e => by subst e; rw [k6] at hk; cases hk)).trans hk⟩⟩
  · have hne : b ≠ r.block := fun e => by subst e; rw [k9 rfl o] at hu; cases hu
    have hc := hi.im b o u hu
    rw [World.cell?_of_block (w := w) (hoth b (zv0 hc) hne)]; exact hc
  · have hfl : rows'.flatten.length = rows'.length * sz := ze7 (n := sz) rows' hrow
    have hF : F.size = rows'.length * sz := by have := hrel.1; rw [hfl] at this; simpa using this.symm
    have hm : rows.length * r.size ≤ r.cap * r.size := Nat.mul_le_mul_right _ k3
    have hcs : F.size ≤ cur.size := by rw [k7,hF,hlen,← k11]; exact hm
    have htake : (Go.Sort.putCells id 0 F cur).toList.take (rows'.length * r.size) = F.toList := by
      rw [k11,← hF]
      apply List.ext_getElem?
      intro i
      rw [List.getElem?_take]
      split
      · rename_i hilt
        simp only [Go.Sort.putCells]
        have hic : i < cur.size := by omega
        simp [hic,hilt]
      · rename_i hilt
        symm
        rw [List.getElem?_eq_none_iff]; simp; omega
    refine .inr ⟨r,_,har,k2,by rw [hlen]; exact k3,k4,fun x hx => by rw [k11]; exact hrow x hx,hnew,?_,?_,?_,k9,(fun e => by cases e),k11,k12.len (by rw [hlen]; exact Nat.le_refl _)⟩
    · simp [Go.Sort.putCells,k7]
    · rw [htake]; exact hrel
    · rw [htake]; exact hone
theorem yy8 {α β : Type} {n : Nat} (f : α → List β) (hf : ∀ x,(f x).length = n) : ∀ (l : List α) (i j : Nat) (x : α) (b : β),l[i]? = some x → (f x)[j]? = some b → (l.map f).flatten[i * n + j]? = some b
  | [],i,j,x,b,h,_ => by simp at h
  | y :: r,0,j,x,b,h,hb => by
    simp at h; subst h
    rw [List.map_cons,List.flatten_cons,List.getElem?_append_left (by simpa using (List.getElem?_eq_some_iff.1 hb).1)]
    simpa using hb
  | y :: r,i + 1,j,x,b,h,hb => by
    have ih := yy8 f hf r i j x b (by simpa using h) hb
    rw [List.map_cons,List.flatten_cons,List.getElem?_append_right (by rw [hf,Nat.add_mul]; omega),hf,show (i + 1) * n + j - n = i * n + j by rw [Nat.add_mul]; omega]
    exact ih
theorem yy7 {α β : Type} {n : Nat} (f : α → List β) (hf : ∀ x,(f x).length = n) : ∀ l : List α,(l.map f).flatten.length = l.length * n
  | [] => by simp
  | x :: r => by rw [List.map_cons,List.flatten_cons,List.length_append,hf,yy7 f hf r,List.length_cons,Nat.add_mul]; omega
theorem zD9 (x : PD) : (zo5 x).length = 2 := rfl
theorem xl5 (ps : List PD) : (Go.Sort.flatK zo5 2 ps.toArray).toList = (ps.map zo5).flatten := by
  apply List.ext_getElem?
  intro i
  by_cases hi : i < ps.length * 2
  · have h1 : i / 2 < ps.length := by omega
    have h2 : i % 2 < 2 := by omega
    have e1 : (Go.Sort.flatK zo5 2 ps.toArray).toList[i]? = some ((zo5 ps[i / 2])[i % 2]'(by rw [zD9]; exact h2)) := by
      rw [List.getElem?_eq_getElem (by simp; exact hi)]
      have := Go.Sort.get_flatK zo5 2 ps.toArray i (by simpa using hi)
      rw [getElem!_pos _ i (by simpa using hi)] at this
      rw [Array.getElem_toList,this]
      rw [getElem!_pos ps.toArray (i / 2) (by simpa using h1),List.getElem_toArray,getElem!_pos _ (i % 2) (by rw [zD9]; exact h2)]
    have h3 := yy8 zo5 zD9 ps (i / 2) (i % 2) ps[i / 2] _ (by simp [h1]) (List.getElem?_eq_getElem (by rw [zD9]; exact h2))
    rw [show i / 2 * 2 + i % 2 = i by omega] at h3
    rw [e1,h3]
  · rw [List.getElem?_eq_none_iff.2 (by simp; omega),List.getElem?_eq_none_iff.2 (by rw [yy7 zo5 zD9]; omega)]
theorem xX3 {C : Cx} : ∀ ps : List PD,RelL C (ps.map zv3).flatten (ps.map zo5).flatten
  | [] => .nil
  | (p,d) :: r => .cons (.str p) (.cons (.str d) (xX3 r))
theorem yL5 {C : Cx} : ∀ (ps : List PD) {us : List Value},RelL C (ps.map zv3).flatten us → us = (ps.map zo5).flatten
  | [],us,h => h.inv_nil
  | (p,d) :: r,us,h => by
    obtain ⟨v1,us1,rfl,h1,h⟩ := RelL.inv_cons (a := .str p) h
    obtain ⟨v2,us2,rfl,h2,h⟩ := RelL.inv_cons (a := .str d) h
    rw [zd7 h1,zd7 h2,yL5 r h]; rfl
theorem onePD (ps : List PD) : ∀ u ∈ (ps.map zo5).flatten,u.oneCell' = true := fun u hu => by
  obtain ⟨l,hl,hu⟩ := List.mem_flatten.1 hu
  obtain ⟨x,_,rfl⟩ := List.mem_map.1 hl
  simp [zo5] at hu
  rcases hu with rfl | rfl <;> rfl
theorem xy7 {B : Base} {C : Cx} {h : Heap} {w : World} (hi : Inv B C h w) {l ver : Nat} {ps : List PD} {r : RowAt} {wr : Bool} (hl : h[l]? = some (.arr 2 ver (ps.map zv3) wr)) (har : C.ar l ver = some (some r)) : Go.Sort.HoldsK zo5 2 w r.block 0 ps.toArray ∧ r.block < w.heap.size := by
  rcases hi.ok l _ hl with ⟨k1,_⟩ | ⟨r',cur,k1,k2,k3,k4,k5,k6,k7,k8,k8',k9,k10,k11,k12⟩
  · rw [har] at k1; cases k1
  rw [har] at k1; injection k1 with k1; injection k1 with k1; subst k1
  refine ⟨fun j hj => ?_,zg6 k6⟩
  have e := yL5 ps k8
  rw [← xl5] at e
  have hj' : j < (Go.Sort.flatK zo5 2 ps.toArray).toList.length := by simpa using hj
  have h3 : j < r.cap * r.size := by rw [k11]; simp at hj k3; omega
  refine ⟨?_,by rw [Nat.zero_add]; exact RowAt.thaw k6 h3⟩
  rw [Nat.zero_add,ze3 k6,← Array.getElem?_toList]
  have h1 : (cur.toList.take ((ps.map zv3).length * r.size))[j]? = some ((Go.Sort.flatK zo5 2 ps.toArray).toList[j]'hj') := by
    rw [e]; exact List.getElem?_eq_getElem hj'
  rw [List.getElem?_take] at h1
  split at h1
  · rw [h1,getElem!_pos _ j hj]; simp
  · cases h1
theorem yT0 {P : Program} {gv : Gv} {f : FuncId} {gs : List FuncId}
    (h00 : ∀ g ∈ gs,∀ (p : Option Addr) (cap : Nat) (w : World),Calls P f #[.slice p 0 cap,.func (.func g) #[] #[]] w fun e w' => e = .returned (.tuple #[]) ∧ w' = w)
    (h1 : ∀ g ∈ gs,∀ (blk off cap : Nat) (d : Array PD) (w : World),Go.Sort.HoldsK zo5 2 w blk off d → blk < w.heap.size → d.size < 4611686018427387904 →
      Calls P f #[.slice (some ⟨blk,off,none⟩) d.size cap,.func (.func g) #[] #[]] w fun e w' => e = .returned (.tuple #[]) ∧ ∃ d' n os,Go.Sort.PermIn 0 d.size d d' ∧ Go.Sort.SortedIn (Go.Proofs.ltOf cfP) 0 d.size d' ∧ w' = Go.Proofs.sortWorldK zo5 2 w blk off n d' os) : zl3 P gv f (zr7 gs) := by
  intro B C h w args r h' vals hgv hi hr hF
  unfold zr7 at hF
  split at hF
  · rename_i l ver n g
    split at hF
    · rename_i ver' rows hl
      split at hF
      · rename_i ps hd
        have := yO9 hd; subst this
        split at hF
        · rename_i hc
          obtain ⟨hg,rfl,rfl,hbig,hdist⟩ := hc
          simp only [Option.some.injEq,Prod.mk.injEq] at hF; obtain ⟨rfl,rfl⟩ := hF
          obtain ⟨v,us,e1,hv,hr⟩ := hr.inv_cons
          obtain ⟨v2,us,rfl,hv2,hr⟩ := hr.inv_cons
          have := hr.inv_nil; subst this
          have hvals : vals = #[v,v2] := by apply Array.ext'; simpa using e1
          subst hvals
          have hf2 : v2 = .func (.func g) #[] #[] := by
            cases hv2 with
            | fn _ _ vs hs _ => have : vs = #[] := by apply Array.eq_empty_of_size_eq_zero; simpa using hs.symm
                                subst this; rfl
          subst hf2
          by_cases hps : ps = []
          · subst hps
            have hh : h.set l (.arr 2 ver ((zp0 []).map zv3) true) = h := by
              obtain ⟨hlt,e⟩ := List.getElem?_eq_some_iff.1 hl
              refine List.ext_getElem? fun i => ?_
              rw [List.getElem?_set]
              split
              · rename_i e2; subst e2; rw [hl]; simp [zp0]
              · rfl
            have hv0 : ∃ p cap,v = .slice p 0 cap := by
              cases hv with
              | ownnil _ _ har => exact ⟨_,_,rfl⟩
              | own _ _ _ r har hcap => exact ⟨_,_,rfl⟩
            obtain ⟨p,cap,rfl⟩ := hv0
            rw [hh]
            refine (h00 g (by simpa using hg) p cap w).mono fun e w' hk => ?_
            obtain ⟨rfl,rfl⟩ := hk
            exact ⟨_,C,rfl,.refl C,hi,.tup [] #[] rfl (fun i c v h => by simp at h),.refl _ _⟩
          have h0 : 0 < ps.length := List.length_pos_iff.2 hps
          generalize hn : ps.length = n at hv
          cases hv with
          | ownnil _ _ har => omega
          | own _ _ _ r har hcap =>
            obtain ⟨q1,q2⟩ := xy7 hi hl har
            have hc := h1 g (by simpa using hg) r.block 0 r.cap ps.toArray w q1 q2 (by unfold big at hbig; simp; omega)
            rw [List.size_toArray,hn] at hc
            refine hc.mono fun e w' hk => ?_
            obtain ⟨rfl,d',q,os,hp,hs,rfl⟩ := hk
            have hsz : d'.size = ps.length := by rw [hp.1]; simp
            have hd' : d'.toList = zp0 ps := by
              refine yd6 hdist ?_ ?_
              · have := hp.2.2
                rw [← hn] at this
                rw [show d'.extract 0 ps.length = d' by rw [← hsz]; exact Array.extract_size] at this
                have e2 : ps.toArray.extract 0 ps.length = ps.toArray := by simp
                rw [e2] at this
                simpa using this
              · rw [List.pairwise_iff_getElem]
                intro i j hi' hj' hij
                have hi2 : i < d'.size := by simpa using hi'
                have hj2 : j < d'.size := by simpa using hj'
                have := hs i j (Nat.zero_le _) hij (by omega)
                rw [getElem!_pos d' j hj2,getElem!_pos d' i hi2,ltP] at this
                rw [zU9,Array.getElem_toList,Array.getElem_toList]
                simp only [Go.Sort.ltStr,decide_eq_false_iff_not] at this
                exact List.not_lt.1 this
            have hd2 : d' = (zp0 ps).toArray := by apply Array.ext'; simpa using hd'
            subst hd2
            obtain ⟨t1,t2⟩ := yY7 hi (rows' := (zp0 ps).map zv3) (F := Go.Sort.flatK zo5 2 (zp0 ps).toArray) hl har (by simpa using hsz) (fun x hx => by obtain ⟨y,_,rfl⟩ := List.mem_map.1 hx; rfl)
              (by rw [xl5]; exact xX3 _) (by rw [xl5]; exact onePD _) (w' := Go.Proofs.sortWorldK zo5 2 w r.block 0 q (zp0 ps).toArray os) rfl rfl rfl (os := os) rfl
            exact ⟨_,C,rfl,.refl C,t1,.tup [] #[] rfl (fun i c v h => by simp at h),t2⟩
        · cases hF
      · cases hF
    · cases hF
  · cases hF
end Go.Proofs.YtopiadllkglamaaGreatDoor
namespace Go.Proofs.YtopiadllkglamaaGreatDoor
open Go.RowKit Go.Lib Go.Sort Go.Shelf
theorem xD3 (a b : Bs) (w : World) : Calls Tryz.prog 51 #[.string ⟨a.toArray⟩,.string ⟨b.toArray⟩] w fun e w' => e = .returned (.int .i64 (Lib.compareBytes a b)) ∧ w' = w := by
  have h : Calls Tryz.prog 51 #[.string ⟨a.toArray⟩,.string ⟨b.toArray⟩] w fun e w' => e = .returned (.int .i64 (Lib.compareBytes (ByteArray.mk a.toArray).data.toList (ByteArray.mk b.toArray).data.toList)) ∧ w' = w := Tryz.strings_Compare ⟨a.toArray⟩ ⟨b.toArray⟩ w
  simpa using h
set_option maxHeartbeats 1000000 in
set_option maxRecDepth 100000 in
theorem xA2 (x y : PD) (W : World) : Calls Tryz.prog 194 #[.agg (zo5 x).toArray,.agg (zo5 y).toArray] W fun e w' => e = .returned (.int .i64 (cfP x y)) ∧ ∃ q os',w' = Go.Sort.grow (W.drewN q) os' := by
  obtain ⟨p,d⟩ := x
  obtain ⟨p',d'⟩ := y
  have hcon : ∀ W',Calls Tryz.prog 51 #[.string ⟨p.toArray⟩,.string ⟨p'.toArray⟩] W' fun e w' => e = .returned (.int .i64 (cfP (p,d) (p',d'))) ∧ w' = W' := fun W' => xD3 p p' W'
  generalize cfP (p,d) (p',d') = r at hcon ⊢
  show Calls Tryz.prog 194 #[.agg #[.string ⟨p.toArray⟩,.string ⟨d.toArray⟩],.agg #[.string ⟨p'.toArray⟩,.string ⟨d'.toArray⟩]] W _
  go_enter Tryz.func194,Tryz.ntmps194
  go_wp2_with (go_at_call 51; refine (hcon _).mono ?_; rintro e w' ⟨rfl,rfl⟩)
  go_ret
  exact ⟨rfl,0,_,by rw [alloc_eq_grow,alloc_eq_grow,grow_grow]; rfl⟩
set_option maxHeartbeats 1000000 in
set_option maxRecDepth 100000 in
theorem xO2 (x y : PD) (W : World) : Calls Tryz.prog 22 #[.agg (zo5 x).toArray,.agg (zo5 y).toArray] W fun e w' => e = .returned (.int .i64 (cfP x y)) ∧ ∃ q os',w' = Go.Sort.grow (W.drewN q) os' := by
  obtain ⟨p,d⟩ := x
  obtain ⟨p',d'⟩ := y
  have hcon : ∀ W',Calls Tryz.prog 51 #[.string ⟨p.toArray⟩,.string ⟨p'.toArray⟩] W' fun e w' => e = .returned (.int .i64 (cfP (p,d) (p',d'))) ∧ w' = W' := fun W' => xD3 p p' W'
  generalize cfP (p,d) (p',d') = r at hcon ⊢
  show Calls Tryz.prog 22 #[.agg #[.string ⟨p.toArray⟩,.string ⟨d.toArray⟩],.agg #[.string ⟨p'.toArray⟩,.string ⟨d'.toArray⟩]] W _
  go_enter Tryz.func22,Tryz.ntmps22
  go_wp2_with (go_at_call 51; refine (hcon _).mono ?_; rintro e w' ⟨rfl,rfl⟩)
  go_ret
  exact ⟨rfl,0,_,by rw [alloc_eq_grow,alloc_eq_grow,grow_grow]; rfl⟩
theorem xR0 : ∀ w,(isAgg 52).run Tryz.prog w = .ok true w := zn7 (by kernel_rfl)
theorem xt8 : ∀ w,(Go.sizeOf 52).run Tryz.prog w = .ok 2 w := zd3 (by kernel_rfl)
set_option maxHeartbeats 2000000 in
set_option maxRecDepth 100000 in
theorem xa0 (g : Nat) (hg : ∀ args w,(callFunc g args).run Tryz.prog w = .ok (.enter g args) w) (hc : ∀ x y W,Calls Tryz.prog g #[.agg (zo5 x).toArray,.agg (zo5 y).toArray] W fun e w' => e = .returned (.int .i64 (cfP x y)) ∧ ∃ q os',w' = Go.Sort.grow (W.drewN q) os')
    (blk off cap : Nat) (d : Array PD) (w : World) (hH : HoldsK zo5 2 w blk off d) (hblk : blk < w.heap.size) (hsz : d.size < 4611686018427387904) :
    Calls Tryz.prog 21 #[.slice (some ⟨blk,off,none⟩) d.size cap,.func (.func g) #[] #[]] w fun e w' => e = .returned (.tuple #[]) ∧ ∃ d' n os,PermIn 0 d.size d d' ∧ SortedIn (ltOf cfP) 0 d.size d' ∧ w' = sortWorldK zo5 2 w blk off n d' os := by
  have mixed := zq7
  have hlim : Lib.bitLen d.size < 4611686018427387904 := Nat.lt_of_le_of_lt (Lib.bitLen_le d.size 62 (by omega) (by omega)) (by omega)
  have h1 : ∀ x,∀ v ∈ zo5 x,v.oneCell' = true := fun x v hv => by simp [zo5] at hv; rcases hv with rfl | rfl <;> rfl
  have hs := pdq_sorts (ltOf cfP) swoP d 0 d.size (Lib.bitLen d.size) true true (Nat.zero_le _) (Nat.le_refl _) (Or.inl rfl)
  have hp : Calls Tryz.prog 49 #[.slice (some ⟨blk,off,none⟩) d.size cap,.int .i64 0,.int .i64 (d.size : Int),.int .i64 (Lib.bitLen d.size : Nat),.func (.func g) #[] #[]] w fun e w' => e = .returned (.tuple #[]) ∧ SWK zo5 2 w blk off (pdq (ltOf cfP) d 0 d.size (Lib.bitLen d.size) true true) w' :=
    AnyQ.pdqsortCmpFunc_all Tryz.pdqFile 2 xR0 xt8 zo5 cfP g #[] swoP blk off cap d w hg (fun _ _ _ _ x y => hc x y _) ⟨fun _ => rfl,h1,hH,hblk⟩ (d.size + 1) 0 d.size (Lib.bitLen d.size) d w (by omega) rfl (SWK.start hH) (Nat.zero_le _) (Nat.le_refl _) hsz hlim (Or.inl rfl)
  have hl : Calls Tryz.prog 50 #[.int .u64 (d.size : Int)] w fun e w' => e = .returned (.int .i64 (Lib.bitLen d.size : Nat)) ∧ w' = w := by
    have h := Tryz.bits_Len (d.size : Int) w (by omega) (by omega)
    rwa [Int.toNat_natCast] at h
  have wr : IntKind.u64.wrap (d.size : Int) = d.size := by simp [IntKind.wrap,IntKind.bits,IntKind.signed]; omega
  generalize pdq (ltOf cfP) d 0 d.size (Lib.bitLen d.size) true true = d' at hp hs
  generalize Lib.bitLen d.size = bl at hp hl
  generalize d.size = n at hp hl wr hs ⊢
  clear hH hc h1 hlim hsz
  go_enter Tryz.func21,Tryz.ntmps21
  go_wp2_with (first | (go_at_call 50; refine hl.mono ?_; rintro e w' ⟨rfl,rfl⟩) | (go_at_call 49; refine hp.mono ?_; rintro e w' ⟨rfl,n,os,rfl⟩))
  go_end0
  exact ⟨rfl,d',n,os,hs.1,hs.2,rfl⟩
set_option maxHeartbeats 1000000 in
set_option maxRecDepth 100000 in
theorem xI8 (fv : Value) (p : Option Addr) (cap : Nat) (w : World) :
    Calls Tryz.prog 21 #[.slice p 0 cap,fv] w fun e w' => e = .returned (.tuple #[]) ∧ w' = w := by
  have mixed := zq7
  have hp : ∀ lim,Calls Tryz.prog 49 #[.slice p 0 cap,.int .i64 0,.int .i64 0,.int .i64 lim,fv] w fun e w' => e = .returned (.tuple #[]) ∧ w' = w := fun lim =>
    AnyF.pdqsortCmpFunc_none Tryz.pdqFile p cap lim fv w
  have hl : Calls Tryz.prog 50 #[.int .u64 0] w fun e w' => e = .returned (.int .i64 (Lib.bitLen 0 : Nat)) ∧ w' = w := Tryz.bits_Len 0 w (by omega) (by omega)
  go_enter Tryz.func21,Tryz.ntmps21
  go_wp2_with (first | (go_at_call 50; refine hl.mono ?_; rintro e w' ⟨rfl,rfl⟩) | (go_at_call 49; refine (hp _).mono ?_; rintro e w' ⟨rfl,rfl⟩))
  go_end0
  exact ⟨rfl,rfl⟩
theorem xt6 (gv : Gv) : zl3 Tryz.prog gv 21 (zr7 [194,22]) :=
  yT0 (fun _ _ p cap w => xI8 _ p cap w) fun g hg blk off cap d w hH hblk hsz => by
    rcases List.mem_cons.1 hg with rfl | hg
    · exact xa0 194 (Go.Proofs.enters_of Tryz.func194 (by kernel_rfl) rfl) xA2 blk off cap d w hH hblk hsz
    · obtain rfl := List.mem_singleton.1 hg
      exact xa0 22 (Go.Proofs.enters_of Tryz.func22 (by kernel_rfl) rfl) xO2 blk off cap d w hH hblk hsz
end Go.Proofs.YtopiadllkglamaaGreatDoor
