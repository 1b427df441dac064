/- What a row's reading of an argument says,as abstract values. What the bound of the second form gives (the page UptoLemmas,for this seat). -/
import Derived.Test.YtopiadllkglamaaGreatDoorWAm9
import Derived.ChangeArms
import Derived.WideShapes
import Derived.DataReads
import Derived.Below
import Derived.Test.YtopiadllkglamaaGreatDoorRows
namespace Go.Proofs.YtopiadllkglamaaGreatDoor
open Go.RowKit Go.WideShapes
section
variable {H : Type}
mutual
def zj3 : DataW H → List AV
 | .lit (.bool b) => [.bool b]
 | .lit (.int k n) => [.int k n]
 | .lit (.string s) => [.str s]
 | .nil => [.sl []]
 | .slice elems _ => [.sl (yu2 elems)]
 | .agg parts => yy6 parts
 | _ => [.junk]
def yu2 : List (DataW H) → List (List AV)
 | [] => []
 | d :: ds => zj3 d :: yu2 ds
def yy6 : List (DataW H) → List AV
 | [] => []
 | d :: ds => zj3 d ++ yy6 ds
end
theorem yu1 : ∀ ds : List (DataW H),yu2 ds = ds.map zj3
 | [] => by simp [yu2]
 | d :: ds => by simp [yu2,yu1 ds]
end
def layB (P : Program) : List Field → Nat → Nat → Bool
 | [],o,n => decide (o = n)
 | f :: r,o,n => decide (f.offset = o) && layB P r (o + P.cellsOf f.type) n
def yG8 (P : Program) : Nat → TypeId → Bool
 | 0,_ => false
 | n + 1,t => match P.underlying t with
  | some .bool => true
  | some (.int _) => true
  | some .string => true
  | some (.slice e) => yG8 P n e && decide (0 < P.cellsOf e)
  | some (.struct fs) => fs.toList.all (fun f => yG8 P n f.type) && layB P fs.toList 0 (P.cellsOf t)
  | _ => false
def imOf (w : World) : Nat → Nat → Option Value := fun b o => match w.cell? ⟨b,o,none⟩ with
 | some u => if u.oneCell' = true then some u else none
 | none => none
theorem yV6 (w : World) : Holds (imOf w) w := by
 refine ⟨fun b o u h => ?_,fun b o u h => ?_⟩
 ·unfold imOf at h
  split at h
  ·rename_i v hv
   split at h
   ·injection h with h; subst h; exact hv
   ·cases h
  ·cases h
 ·unfold imOf at h
  split at h
  ·split at h
   ·injection h with h; subst h; assumption
   ·cases h
  ·cases h
theorem yy0 {w : World} {b o : Nat} {u : Value} (h : w.cell? ⟨b,o,none⟩ = some u) (h1 : u.oneCell' = true) : imOf w b o = some u := by
 simp [imOf,h,h1]
def zC5 : AV → Bool
 | .bool _ | .int _ _ | .str _ | .sl _ => true
 | _ => false
theorem yU2 {C : Cx} {a : AV} {v : Value} (h : Rel C a v) (hp : zC5 a = true) : v.oneCell' = true := by
 cases h <;> first | rfl | (simp [zC5] at hp)
section
variable {H : Type} {enc : TypeId × Value → H} {P : Program} {w : World} {base : Nat} {spare : Nat → Bool} {held : Bool}
theorem yd5 {cs : List Value} {part : Field → List Value} (hpart : ∀ f,part f = (cs.drop f.offset).take (P.cellsOf f.type)) : ∀ (fs : List Field) (ds : List (DataW H)) (o : Nat),layB P fs o cs.length = true → ds.length = fs.length →
  (∀ (i : Nat) f d,fs[i]? = some f → ds[i]? = some d → RelL (Cx.pure (imOf w)) (zj3 d) (part f) ∧ (zj3 d).all zC5 = true) → RelL (Cx.pure (imOf w)) (yy6 ds) (cs.drop o) ∧ (yy6 ds).all zC5 = true
 | [],ds,o,hl,hlen,_ => by
  simp only [layB,decide_eq_true_eq] at hl
  have : ds = [] := List.length_eq_zero_iff.1 (by simpa using hlen)
  subst this
  subst hl
  simp [yy6]
  exact .nil
 | f :: fs,[],o,hl,hlen,_ => by simp at hlen
 | f :: fs,d :: ds,o,hl,hlen,hr => by
  simp only [layB,Bool.and_eq_true,decide_eq_true_eq] at hl
  obtain ⟨h1,h2⟩ := hr 0 f d rfl rfl
  obtain ⟨h3,h4⟩ := yd5 hpart fs ds (o + P.cellsOf f.type) hl.2 (by simpa using hlen) (fun i f d hf hd => hr (i + 1) f d (by simpa using hf) (by simpa using hd))
  rw [hpart,hl.1] at h1
  refine ⟨?_,by simp [yy6,h2,h4]⟩
  have := h1.append h3
  rw [← List.drop_drop,List.take_append_drop] at this
  simpa [yy6] using this
theorem zF3 : ∀ (n : Nat) (t : TypeId) (fuel : Nat) (cs : List Value) (x : DataW H × List MemPlace),yG8 P n t = true → DataW.trod enc P w base spare held fuel t cs = some x →
  RelL (Cx.pure (imOf w)) (zj3 x.1) cs ∧ (zj3 x.1).all zC5 = true
 | 0,t,fuel,cs,x,hf,h => by simp [yG8] at hf
 | n + 1,t,fuel,cs,x,hf,h => by
  unfold yG8 at hf
  split at hf
  ·rename_i ht
   obtain ⟨b,rfl,rfl⟩ := DataW.trod_bool ht h
   exact ⟨by simpa [zj3] using RelL.cons (.bool b) .nil,by simp [zj3,zC5]⟩
  ·rename_i k ht
   obtain ⟨m,rfl,rfl,_⟩ := DataW.trod_int ht h
   exact ⟨by simpa [zj3] using RelL.cons (.int k m) .nil,by simp [zj3,zC5]⟩
  ·rename_i ht
   obtain ⟨s,rfl,rfl,_⟩ := DataW.trod_string ht h
   refine ⟨?_,by simp [zj3,zC5]⟩
   have : Rel (Cx.pure (imOf w)) (.str s.data.toList) (.string ⟨s.data.toList.toArray⟩) := .str _
   have e : (⟨s.data.toList.toArray⟩ : ByteArray) = s := by cases s; rfl
   rw [e] at this
   simpa [zj3] using RelL.cons this .nil
  ·rename_i e ht
   rcases DataW.trod_slice ht h with ⟨rfl,rfl⟩ | ⟨a,len,cap,elems,rest,fu,_,rfl,rfl,hb,hl,hm,hlen,hel,_,_⟩
   ·exact ⟨by simpa [zj3] using RelL.cons .slnil .nil,by simp [zj3,zC5]⟩
   ·refine ⟨?_,by simp [zj3,zC5]⟩
    simp only [zj3,yu1]
    refine .cons ?_ .nil
    have each : ∀ i y,elems[i]? = some y → ∃ cs',w.cells? base (a.add (i * P.cellsOf e)) (P.cellsOf e) = some cs' ∧ DataW.trod enc P w base spare held fu e cs' = some y := fun i y hy => by
     have hi : i < len := by rw [← hlen]; exact (List.getElem?_eq_some_iff.1 hy).1
     have := hel i hi
     rw [hy] at this
     simpa [Option.bind_eq_some_iff] using this
    simp only [Bool.and_eq_true,decide_eq_true_eq] at hf
    obtain ⟨hf,hc⟩ := hf
    by_cases h0 : len = 0
    ·subst h0
     have : elems = [] := List.length_eq_zero_iff.1 hlen
     subst this
     exact .slz a cap
    ·have hgo : True := trivial
     ·obtain ⟨y0,hy0⟩ : ∃ y,elems[0]? = some y := ⟨elems[0]'(by omega),by simp⟩
      obtain ⟨cs0,h1,h2⟩ := each 0 y0 hy0
      have hspot : a.spot = none := by
       have := (World.cells?_some h1).2.2 0 (by omega)
       cases hv : cs0[0]? with
       | none =>
        have := List.getElem?_eq_none_iff.1 hv
        rw [(World.cells?_some h1).2.1] at this; omega
       | some v =>
        rw [hv] at this
        simpa [Addr.add] using World.cell?_spot this
      obtain ⟨b,o,sp⟩ := a
      simp only at hspot; subst hspot
      have hlm : (elems.map (fun y => zj3 y.1)).length = len := by simpa using hlen
      have hrows : (elems.map (·.1)).map zj3 = elems.map fun y => zj3 y.1 := by rw [List.map_map]; rfl
      rw [hrows]
      have row : ∀ i r,(elems.map fun y => zj3 y.1)[i]? = some r → ∃ cs',RelL (Cx.pure (imOf w)) r cs' ∧ r.all zC5 = true ∧ cs'.length = P.cellsOf e ∧ ∀ j,j < P.cellsOf e → w.cell? ⟨b,o + i * P.cellsOf e + j,none⟩ = cs'[j]? := fun i r hr => by
       simp only [List.getElem?_map,Option.map_eq_some_iff] at hr
       obtain ⟨y,hy,rfl⟩ := hr
       obtain ⟨cs',g1,g2⟩ := each i y hy
       obtain ⟨r1,r2⟩ := zF3 n e fu cs' y hf g2
       obtain ⟨_,q2,q3⟩ := World.cells?_some g1
       exact ⟨cs',r1,r2,q2,fun j hj => by have := q3 j hj; rwa [Addr.add_lit,Addr.add_lit] at this⟩
      have goal : Rel (Cx.pure (imOf w)) (.sl (elems.map fun y => zj3 y.1)) (.slice (some ⟨b,o,none⟩) (elems.map fun y => zj3 y.1).length cap) := by
       refine .sl _ b o cap (P.cellsOf e) (fun i j => (w.cell? ⟨b,o + i * P.cellsOf e + j,none⟩).getD undef) (by rw [hlm]; exact hl) (fun i r hr => ?_) (fun i r j c hr hc => ?_) (fun i r j c hr hc => ?_)
       ·obtain ⟨cs',r1,_,q2,_⟩ := row i r hr
        rw [r1.1]; exact q2
       ·obtain ⟨cs',r1,r2,q2,q3⟩ := row i r hr
        obtain ⟨v,hv,hrel⟩ := r1.get hc
        have hj : j < P.cellsOf e := by rw [← q2,← r1.1]; exact (List.getElem?_eq_some_iff.1 hc).1
        have hcell := q3 j hj
        rw [hv] at hcell
        have hone := yU2 hrel (List.all_eq_true.1 r2 c (List.mem_of_getElem? hc))
        show imOf w _ _ = _
        rw [yy0 hcell hone]
        simp [hcell]
       ·obtain ⟨cs',r1,r2,q2,q3⟩ := row i r hr
        obtain ⟨v,hv,hrel⟩ := r1.get hc
        have hj : j < P.cellsOf e := by rw [← q2,← r1.1]; exact (List.getElem?_eq_some_iff.1 hc).1
        have hcell := q3 j hj
        rw [hv] at hcell
        simp only [hcell,Option.getD_some]
        exact hrel
      rw [hlm] at goal
      exact goal
  ·rename_i fs ht
   obtain ⟨xs,m,_,rfl,hlc,hlen,hfs⟩ := DataW.trod_struct ht h
   simp only [Bool.and_eq_true] at hf
   simp only [zj3]
   have := yd5 (H := H) (P := P) (w := w) (cs := cs) (part := fun f => (cs.drop f.offset).take (P.cellsOf f.type)) (fun _ => rfl) fs.toList (xs.map (·.1)) 0 (by rw [hlc]; exact hf.2) (by simpa using hlen) (fun i f d h1 h2 => ?_)
   ·simpa using this
   ·simp only [List.getElem?_map,Option.map_eq_some_iff] at h2
    obtain ⟨y,hy,rfl⟩ := h2
    have h1' : fs[i]? = some f := by simpa using h1
    have := hfs i f h1'
    rw [hy] at this
    exact zF3 n f.type m _ y (List.all_eq_true.1 hf.1 f (List.mem_of_getElem? h1)) this
  ·cases hf
end
end Go.Proofs.YtopiadllkglamaaGreatDoor
namespace Go.Proofs.YtopiadllkglamaaGreatDoor.bulks
theorem xY5 {H : Type} (d : DataW H) : 1 ≤ Rows.uptoBulk d := by
 cases d with
 | lit l => cases l <;> simp [Rows.uptoBulk]
 | nil => simp [Rows.uptoBulk]
 | ptr d => simp [Rows.uptoBulk]
 | slice elems spare => simp [Rows.uptoBulk]
 | agg parts => simp [Rows.uptoBulk]
 | iface t d => simp [Rows.uptoBulk]
 | map entries => simp [Rows.uptoBulk]
 | held h => simp [Rows.uptoBulk]
theorem append {H : Type} (l r : List (DataW H)) : Rows.uptoBulkAll (l ++ r) = Rows.uptoBulkAll l + Rows.uptoBulkAll r := by
 induction l with
 | nil => simp [Rows.uptoBulkAll]
 | cons x l ih => simp only [List.cons_append,Rows.uptoBulkAll,ih]; omega
theorem yx3 {H : Type} (l : List (DataW H)) : l.length ≤ Rows.uptoBulkAll l := by
 induction l with
 | nil => simp [Rows.uptoBulkAll]
 | cons x r ih => have := xY5 x; simp only [Rows.uptoBulkAll,List.length_cons]; omega
theorem slice_le {H : Type} (elems spare : List (DataW H)) : elems.length + spare.length + 1 ≤ Rows.uptoBulk (.slice elems spare) := by
 have h1 := yx3 elems
 have h2 := yx3 spare
 simp only [Rows.uptoBulk]
 omega
theorem slice_elems {H : Type} (elems spare : List (DataW H)) : Rows.uptoBulkAll elems + 1 ≤ Rows.uptoBulk (.slice elems spare) := by
 simp only [Rows.uptoBulk]
 omega
theorem bound {H : Type} {l : List (DataW H)} (hk : Rows.uptoSmall H l = true) : Rows.uptoBulkAll l ≤ 1048576 := by
 simpa [Rows.uptoSmall] using hk
end Go.Proofs.YtopiadllkglamaaGreatDoor.bulks
