/- strings.Builder: the check that it was not copied,at builders of several types of blocks. slices.Clone,as a contract: what is copied is an array of its own. slices.Grow of a nil slice,as a contract -/
import Derived.Test.YtopiadllkglamaaGreatDoorWAm10
import Derived.Test.YtopiadllkglamaaGreatDoorWAm9
import Derived.Sort.Walk0
import Derived.Test.YtopiadllkglamaaGreatDoorWRecMc
import Derived.Test.YtopiadllkglamaaGreatDoorWAm5
import Derived.KernelRfl
import Derived.Test.YtopiadllkglamaaGreatDoorWAm11
import Derived.Test.YtopiadllkglamaaGreatDoorWRmI
namespace Go.Proofs.YtopiadllkglamaaGreatDoor
open Go.RowKit
def zy0 (ts : List TypeId) : List AV → Heap → Option (AV × Heap)
 | [.ptr l 0],h => match h[l]? with
  | some (.cellsT (some T) [.nilp,x]) => if ts.contains T then some (.tup [],h.set l (.cellsT (some T) [.ptr l 0,x])) else none
  | some (.cellsT _ [.ptr l' 0,_]) => if l' = l then some (.tup [],h) else none
  | _ => none
 | _,_ => none
theorem xn9 {P : Program} {gv : Gv} {f : FuncId} {ts : List TypeId}
  (hf : ∀ T ∈ ts,∀ (b : Nat) (w : World),w.cell? ⟨b,0,none⟩ = some (.pointer none) → w.shape? b = some (T,2) → w.frozen? ⟨b,0,none⟩ = false →
   Calls P f #[.pointer (some ⟨b,0,none⟩)] w fun e w' => e = .returned (.tuple #[]) ∧ w' = w.setCell ⟨b,0,none⟩ (.pointer (some ⟨b,0,none⟩)))
  (hu : ∀ (b : Nat) (w : World),w.cell? ⟨b,0,none⟩ = some (.pointer (some ⟨b,0,none⟩)) → Calls P f #[.pointer (some ⟨b,0,none⟩)] w fun e w' => e = .returned (.tuple #[]) ∧ w' = w) : zl3 P gv f (zy0 ts) := by
 intro B C h w args r h' vals hgv hi hr hF
 unfold zy0 at hF
 split at hF
 ·rename_i args l
  obtain ⟨v1,us1,e1,h1,hr⟩ := hr.inv_cons
  have := hr.inv_nil; subst this
  cases h1 with
  | ptr _ _ b hb =>
   have hv : vals = #[.pointer (some ⟨b,0,none⟩)] := by apply Array.ext'; simpa using e1
   subst hv
   split at hF
   ·rename_i T x hl
    split at hF
    ·rename_i htg
     simp only [Option.some.injEq,Prod.mk.injEq] at hF; obtain ⟨rfl,rfl⟩ := hF
     obtain ⟨b',cur,e,k1,k2,k3,k4,k5,k6⟩ := hi.ok l _ hl
     rw [hb] at k1; injection k1 with k1; subst k1
     have he := k6 T rfl
     subst he
     obtain ⟨y1,vs1,g1,r1,r2⟩ := k5.inv_cons
     obtain ⟨y2,vs2,g2,r3,r4⟩ := r2.inv_cons
     have := r4.inv_nil; subst this
     subst g2
     have hcur : cur = #[y1,y2] := by apply Array.ext'; simpa using g1
     subst hcur
     cases r1
     refine (hf _ (by simpa using htg) b w (by rw [ze3 k3]; rfl) (by simp [World.shape?,k3]) (by simp [World.frozen?,k3])).mono fun ex w' hk => ?_
     obtain ⟨rfl,rfl⟩ := hk
     refine ⟨_,C,rfl,.refl C,?_,.tup _ _ rfl (fun i c v hc => by simp at hc),(Keep.refl B w).setCell (p := ⟨b,0,none⟩) k2 _⟩
     have hnew : (w.setCell ⟨b,0,none⟩ (.pointer (some ⟨b,0,none⟩))).heap[b]? = some (.cells #[.pointer (some ⟨b,0,none⟩),y2] e (0,0)) := by
      simp [World.setCell,Array.getElem?_modify,k3]
     refine hi.turn hl (.refl C) (by simp [World.setCell]) (fun b' hb' _ => ⟨Below.heap_setCell w ⟨b,0,none⟩ _ b' (fun e => hb' (by simp [za6,hb]; exact e.symm)),fun _ => rfl⟩) (fun b' o u hu => ?_) hi.one ⟨b,_,e,hb,k2,hnew,k4,?_,fun t ht => by injection ht⟩ (fun b' hb' => .inl hb') hi.fr (fun k ne tg sz ver rows wr hk v hv => ?_)
     ·have hne : b' ≠ b := fun e => by subst e; rw [k4 o] at hu; cases hu
      have := hi.im _ _ _ hu
      have hc := Below.heap_setCell w ⟨b,0,none⟩ (.pointer (some ⟨b,0,none⟩)) b' hne
      simp only [World.cell?] at this ⊢
      rw [hc]; exact this
     ·exact .cons (.ptr l 0 b hb) (.cons r3 .nil)
     ·rw [List.getElem?_set] at hk
      split at hk
      ·split at hk
       ·cases hk
       ·cases hk
      ·exact hi.fv k ne tg sz ver rows wr hk v hv
    ·cases hF
   ·rename_i tg l' x hl
    split at hF
    ·rename_i hll
     subst hll
     simp only [Option.some.injEq,Prod.mk.injEq] at hF; obtain ⟨rfl,rfl⟩ := hF
     obtain ⟨b',cur,e,k1,k2,k3,k4,k5,k6⟩ := hi.ok l' _ hl
     rw [hb] at k1; injection k1 with k1; subst k1
     obtain ⟨y1,vs1,g1,r1,r2⟩ := k5.inv_cons
     have hy : y1 = .pointer (some ⟨b,0,none⟩) := by
      cases r1 with
      | ptr _ _ b2 hb2 => rw [hb] at hb2; injection hb2 with hb2; subst hb2; rfl
     subst hy
     refine (hu b w (by rw [ze3 k3,← Array.getElem?_toList,g1]; rfl)).mono fun ex w' hk => ?_
     obtain ⟨rfl,rfl⟩ := hk
     exact ⟨_,C,rfl,.refl C,hi,.tup _ _ rfl (fun i c v hc => by simp at hc),.refl _ _⟩
    ·cases hF
   ·cases hF
 ·cases hF
end Go.Proofs.YtopiadllkglamaaGreatDoor
namespace Go.Proofs.YtopiadllkglamaaGreatDoor
open Go.RowKit
theorem xC2 {B : Base} {C : Cx} {h : Heap} {w w' : World} (hi : Inv B C h w) {rows : List (List AV)} {cur : Array Value} {e : TypeId} {size cap g : Nat} (hg : w.heap.size ≤ g) (hb : Below w.heap.size w w') (hn : w'.heap[g]? = some (.cells cur e (0,0))) (hcap : rows.length ≤ cap) (hmax : cap ≤ maxLen)
  (hsz : ∀ row ∈ rows,row.length = size) (hcur : cur.size = cap * size) (hr : RelL (Cx.pure C.im) rows.flatten (cur.toList.take (rows.length * size))) (h1 : ∀ u ∈ cur.toList.take (rows.length * size),u.oneCell' = true) :
  Inv B (C.addAr h.length 0 (some ⟨g,cap,size,e,false⟩)) (h ++ [.arr size 0 rows true]) w' ∧ Rel (C.addAr h.length 0 (some ⟨g,cap,size,e,false⟩)) (.own h.length 0 rows.length) (.slice (some ⟨g,0,none⟩) rows.length cap) ∧
   C.Le (C.addAr h.length 0 (some ⟨g,cap,size,e,false⟩)) := by
 have hnn := (hi.fr h.length (Nat.le_refl _)).2 0
 have he := zD8 (w := w) (some ⟨g,cap,size,e,false⟩) hnn
 have har : (C.addAr h.length 0 (some ⟨g,cap,size,e,false⟩)).ar h.length 0 = some (some ⟨g,cap,size,e,false⟩) := by simp [Cx.addAr]
 refine ⟨hi.add he hb (fun b o u x => zA8 hi hb b o u x) (fun b o u x => hi.one b o u x) (blk := .arr size 0 rows true) (.inr ⟨_,cur,har,Nat.le_trans hi.hB hg,hcap,hmax,hsz,hn,hcur,hr,h1,fun _ o => ?_,(fun e => by cases e),rfl,zI1 e rows⟩) (fun b hb => ?_) (fun l hl => rfl) (fun l v hl => by simp [Cx.addAr,hl]) (fun ne' tg' sz' ver rows wr e v hv => ?_),.own _ _ _ ⟨g,cap,size,e,false⟩ har hcap,he.le⟩
 ·show C.im g o = none
  cases hc : C.im g o with
  | none => rfl
  | some u => have := zv0 (hi.im _ _ _ hc); omega
 ·simp only [za6,har,Option.some.injEq] at hb; omega
 ·injection e with e000 e00 e0 e1; subst e1
  simp only [Cx.addAr,true_and]
  rw [if_neg (by omega)]
  exact (hi.fr h.length (Nat.le_refl _)).2 v
def zT7 (size bytes : Nat) (h : Heap) (rows : List (List AV)) : Option (AV × Heap) :=
 if rows.isEmpty then some (.sl [],h)
 else if zc3 size rows ∧ rows.length * bytes ≤ 140737488355328 ∧ rows.length ≤ maxLen then some (.own h.length 0 rows.length,h ++ [.arr size 0 rows true]) else none
def zo1 (size bytes : Nat) : List AV → Heap → Option (AV × Heap)
 | [.nils],h => some (.nils,h)
 | [.sl rows],h => zT7 size bytes h rows
 | [.own l ver n],h => match h[l]? with
  | some (.arrX false none sz ver' rows _wr) => if ver = ver' ∧ n = rows.length ∧ sz = size then zT7 size bytes h rows else none
  | _ => none
 | _,_ => none
theorem zE2 {P : Program} {gv : Gv} {f : FuncId} {e : TypeId} {size bytes : Nat}
  (h1 : ∀ (a : Addr) (n c : Nat) (news : List Value) (w : World),news.length = n * size → n ≤ maxLen → n * bytes ≤ 140737488355328 → (∀ j u,news[j]? = some u → w.cell? (a.add j) = some u) → (∀ u ∈ news,u.oneCell' = true) →
   Calls P f #[.slice (some a) n c] w fun o w' => (∃ v',o = .returned v' ∧ w'.ownsRow w.heap.size e size v' n news) ∧ Below w.heap.size w w')
  (h2 : ∀ (n c : Nat) (w : World),Calls P f #[.slice none n c] w fun o w' => o = .returned (.slice none 0 0) ∧ w' = w) : zl3 P gv f (zo1 size bytes) := by
 intro B C h w args r h' vals hgv hi hr hF
 have nil : ∀ {r : AV} {h' : Heap},zT7 size bytes h [] = some (r,h') → r = .sl [] ∧ h' = h := fun hc => by
  simp only [zT7,List.isEmpty_nil,if_true,Option.some.injEq,Prod.mk.injEq] at hc
  exact ⟨hc.1.symm,hc.2.symm⟩
 have some' : ∀ {rows : List (List AV)} {a : Addr} {c : Nat} {news : List Value},zT7 size bytes h rows = some (r,h') → RelL (Cx.pure C.im) rows.flatten news → (∀ j u,news[j]? = some u → w.cell? (a.add j) = some u) → (∀ u ∈ news,u.oneCell' = true) → (rows ≠ [] → news.length = rows.length * size) →
   Calls P f #[.slice (some a) rows.length c] w fun o w' => ∃ v D,o = .returned v ∧ C.Le D ∧ Inv B D h' w' ∧ Rel D r v ∧ Keep B w w' := fun {rows a c news} hc hrel hcell hone hlen => by
  cases rows with
  | nil =>
   obtain ⟨rfl,rfl⟩ := nil hc
   refine (h1 a 0 c [] w (by simp) (by simp) (by simp) (fun j u hj => by simp at hj) (fun u hu => by cases hu)).mono fun o w' hk => ?_
   obtain ⟨⟨v',rfl,hown⟩,hbel⟩ := hk
   rcases hown.2 with ⟨rfl,_⟩ | ⟨g,cap,cur,rfl,_⟩
   ·exact ⟨_,C,rfl,.refl C,hi.grow hbel,.slnil,.grown hbel hi.hB⟩
   ·exact ⟨_,C,rfl,.refl C,hi.grow hbel,.slz _ _,.grown hbel hi.hB⟩
  | cons row rs =>
   simp only [zT7,List.isEmpty_cons,Bool.false_eq_true,if_false] at hc
   split at hc
   ·rename_i hcond
    obtain ⟨s1,s2,s3⟩ := hcond
    simp only [Option.some.injEq,Prod.mk.injEq] at hc
    obtain ⟨rfl,rfl⟩ := hc
    refine (h1 a (row :: rs).length c news w (hlen (by simp)) s3 s2 hcell hone).mono fun o w' hk => ?_
    obtain ⟨⟨v',rfl,hown⟩,hbel⟩ := hk
    rcases hown.2 with ⟨_,hz⟩ | ⟨g,cap,cur,rfl,q1,q2,q3,q4,q5,q6⟩
    ·simp at hz
    ·obtain ⟨t1,t2,t3⟩ := xC2 (rows := row :: rs) hi q1 hbel q2 q3 q4 (zj7 s1) q5 (by rw [q6]; exact hrel) (by rw [q6]; exact hone)
     exact ⟨_,_,rfl,t3,t1,t2,.grown hbel hi.hB⟩
   ·cases hc
 unfold zo1 at hF
 split at hF
 ·obtain ⟨v,us,e1,hv,hr⟩ := hr.inv_cons
  have := hr.inv_nil; subst this
  have hvals : vals = #[v] := by apply Array.ext'; simpa using e1
  subst hvals
  simp only [Option.some.injEq,Prod.mk.injEq] at hF; obtain ⟨rfl,rfl⟩ := hF
  cases hv
  refine (h2 0 0 w).mono fun o w' hk => ?_
  obtain ⟨rfl,rfl⟩ := hk
  exact ⟨_,C,rfl,.refl C,hi,.nils,.refl _ _⟩
 ·rename_i rows
  obtain ⟨v,us,e1,hv,hr⟩ := hr.inv_cons
  have := hr.inv_nil; subst this
  have hvals : vals = #[v] := by apply Array.ext'; simpa using e1
  subst hvals
  cases hv with
  | slnil =>
   obtain ⟨rfl,rfl⟩ := nil hF
   refine (h2 0 0 w).mono fun o w' hk => ?_
   obtain ⟨rfl,rfl⟩ := hk
   exact ⟨_,C,rfl,.refl C,hi,.slnil,.refl _ _⟩
  | slz a cap => exact some' (rows := []) (news := []) hF .nil (fun j u hj => by simp at hj) (fun u hu => by cases hu) (fun h => absurd rfl h)
  | sl _ b o cap size' us hcap g1 g2 g3 =>
   have hss : rows ≠ [] → zc3 size rows = true := fun hne => by
    cases rows with
    | nil => exact absurd rfl hne
    | cons x y =>
     simp only [zT7,List.isEmpty_cons,Bool.false_eq_true,if_false] at hF
     split at hF
     ·rename_i hc; exact hc.1
     ·cases hF
   obtain ⟨l,k1,k2⟩ := zG1 (size := size') rows o us (fun row hrow => by
    obtain ⟨i,hi'⟩ := List.mem_iff_getElem?.1 hrow
    exact g1 i row hi') g2 g3
   refine some' (news := l) hF k1 (fun j u hj => by rw [Addr.add_lit]; exact hi.im _ _ _ (k2 j u hj)) (fun u hu => ?_) (fun hne => ?_)
   ·obtain ⟨j,hj⟩ := List.mem_iff_getElem?.1 hu
    exact hi.one _ _ _ (k2 j u hj)
   ·rw [← k1.1,ze7 rows (zj7 (hss hne))]
 ·rename_i l ver n
  split at hF
  ·rename_i sz ver' rows wr hl
   split at hF
   ·rename_i hc
    obtain ⟨rfl,rfl,rfl⟩ := hc
    obtain ⟨v,us,e1,hv,hr⟩ := hr.inv_cons
    have := hr.inv_nil; subst this
    have hvals : vals = #[v] := by apply Array.ext'; simpa using e1
    subst hvals
    generalize hn : rows.length = n at hv
    cases hv with
    | ownnil _ _ har =>
     have hx : rows = [] := List.length_eq_zero_iff.1 hn
     subst hx
     obtain ⟨rfl,rfl⟩ := nil hF
     refine (h2 0 0 w).mono fun o w' hk => ?_
     obtain ⟨rfl,rfl⟩ := hk
     exact ⟨_,C,rfl,.refl C,hi,.slnil,.refl _ _⟩
    | own _ _ _ r' har hcap =>
     rcases hi.ok l _ hl with ⟨k1,_⟩ | ⟨r2,cur,k1,k2,k3,k4,k5,k6,k7,k8,k8',k9⟩
     ·rw [har] at k1; cases k1
     ·rw [har] at k1; injection k1 with k1; injection k1 with k1; subst k1
      subst hn
      refine some' (news := cur.toList.take (rows.length * r'.size)) hF k8 (fun j u hj => ?_) k8' (fun hne => ?_)
      ·rw [Addr.add_lit,ze3 k6]
       rw [List.getElem?_take] at hj
       split at hj
       ·simpa using hj
       ·cases hj
      ·rw [← k8.1,ze7 rows k5]
       have hs : zc3 sz rows = true := by
        cases rows with
        | nil => exact absurd rfl hne
        | cons x y =>
         simp only [zT7,List.isEmpty_cons,Bool.false_eq_true,if_false] at hF
         split at hF
         ·rename_i hc; exact hc.1
         ·cases hF
       cases rows with
       | nil => exact absurd rfl hne
       | cons x y =>
        have e1 := k5 x (by simp)
        have e2 := zj7 hs x (by simp)
        rw [← e1,e2]
   ·cases hF
  ·cases hF
 ·cases hF
end Go.Proofs.YtopiadllkglamaaGreatDoor
namespace Go.Proofs.YtopiadllkglamaaGreatDoor
open Go.RowKit
def yr0 (size : Nat) : List AV → Heap → Option (AV × Heap)
 | [.nils,.int .i64 k],h => if 0 < k ∧ k ≤ 1000000 then some (.own h.length 0 0,h ++ [.arr size 0 [] true]) else if k = 0 then some (.nils,h) else none
 | _,_ => none
theorem xz0 {P : Program} {gv : Gv} {f : FuncId} {e : TypeId} {size : Nat}
  (h1 : ∀ (n : Nat) (w : World),0 < n → n ≤ 1000000 → Calls P f #[.slice none 0 0,.int .i64 n] w fun o w' => ∃ cap cur,o = .returned (.slice (some ⟨w.heap.size,0,none⟩) 0 cap) ∧ w'.heap[w.heap.size]? = some (.cells cur e (0,0)) ∧ cur.size = cap * size ∧ cap ≤ maxLen ∧ Below w.heap.size w w')
  (h2 : ∀ (w : World),Calls P f #[.slice none 0 0,.int .i64 0] w fun o w' => o = .returned (.slice none 0 0) ∧ w' = w) : zl3 P gv f (yr0 size) := by
 intro B C h w args r h' vals hgv hi hr hF
 unfold yr0 at hF
 split at hF
 ·rename_i k
  obtain ⟨v,us,e1,hv,hr⟩ := hr.inv_cons
  obtain ⟨v2,us,rfl,hv2,hr⟩ := hr.inv_cons
  have := hr.inv_nil; subst this
  have hvals : vals = #[v,v2] := by apply Array.ext'; simpa using e1
  subst hvals
  cases hv
  have := zd4 hv2; subst this
  split at hF
  ·rename_i hk
   obtain ⟨n,rfl⟩ : ∃ n : Nat,k = n := ⟨k.toNat,by omega⟩
   simp only [Option.some.injEq,Prod.mk.injEq] at hF; obtain ⟨rfl,rfl⟩ := hF
   refine (h1 n w (by omega) (by omega)).mono fun o w' hk => ?_
   obtain ⟨cap,cur,rfl,q1,q2,q3,hbel⟩ := hk
   obtain ⟨t1,t2,t3⟩ := yp8 (rows := []) hi hbel q1 (Nat.zero_le _) q3 (fun _ hr => by cases hr) q2 (by simp; exact .nil) (fun u hu => by simp at hu)
   exact ⟨_,_,rfl,t3,t1,t2,.grown hbel hi.hB⟩
  ·split at hF
   ·rename_i hk
    subst hk
    simp only [Option.some.injEq,Prod.mk.injEq] at hF; obtain ⟨rfl,rfl⟩ := hF
    refine (h2 w).mono fun o w' hk => ?_
    obtain ⟨rfl,rfl⟩ := hk
    exact ⟨_,C,rfl,.refl C,hi,.nils,.refl _ _⟩
   ·cases hF
 ·cases hF
end Go.Proofs.YtopiadllkglamaaGreatDoor
namespace Go.Proofs.YtopiadllkglamaaGreatDoor
open Go.RowKit
abbrev PD := Bs × Bs
def zo5 (x : PD) : List Value := [.string ⟨x.1.toArray⟩,.string ⟨x.2.toArray⟩]
def zv3 (x : PD) : List AV := [.str x.1,.str x.2]
def yH5 : List (List AV) → Option (List PD)
 | [] => some []
 | [.str p,.str d] :: r => (yH5 r).map ((p,d) :: ·)
 | _ => none
theorem yO9 : ∀ {rows : List (List AV)} {ps : List PD},yH5 rows = some ps → rows = ps.map zv3
 | [],ps,h => by simp [yH5] at h; subst h; rfl
 | r :: rs,ps,h => by
  unfold yH5 at h
  split at h
  ·rename_i e; cases e
  ·rename_i p d r' e
   cases e
   simp only [Option.map_eq_some_iff] at h
   obtain ⟨qs,h1,rfl⟩ := h
   rw [yO9 h1]; rfl
  ·cases h
theorem yP0 : ∀ ps : List PD,yH5 (ps.map zv3) = some ps
 | [] => rfl
 | (p,d) :: r => by
  have ih := yP0 r
  simp [yH5,zv3] at ih ⊢
  simpa [zv3] using ih
def leqP (x y : PD) : Bool := !Op.bytesLess y.1 x.1
theorem zU9 {x y : PD} : leqP x y = true ↔ x.1 ≤ y.1 := by
 unfold leqP; rw [Go.Proofs.bytesLess_eq]
 simp only [Bool.not_eq_true',decide_eq_false_iff_not]
 exact List.not_lt
theorem yV2 {x y z : PD} (h1 : leqP x y = true) (h2 : leqP y z = true) : leqP x z = true := by
 rw [zU9] at *; exact List.le_trans h1 h2
theorem yV3 {x y : PD} (h : ¬ leqP x y = true) : leqP y x = true := by
 rw [zU9] at *
 exact (List.le_total x.1 y.1).resolve_left h
def insP (x : PD) : List PD → List PD
 | [] => [x]
 | y :: r => if leqP x y then x :: y :: r else y :: insP x r
def zp0 : List PD → List PD
 | [] => []
 | x :: r => insP x (zp0 r)
theorem zZ5 (x : PD) : ∀ l,(insP x l).Perm (x :: l)
 | [] => .refl _
 | y :: r => by
  unfold insP
  split
  ·exact .refl _
  ·exact ((zZ5 x r).cons y).trans (.swap x y r)
theorem zu1 : ∀ l,(zp0 l).Perm l
 | [] => .refl _
 | x :: r => (zZ5 x _).trans ((zu1 r).cons x)
theorem zZ4 (x : PD) : ∀ {l : List PD},l.Pairwise (fun a b => leqP a b = true) → (insP x l).Pairwise (fun a b => leqP a b = true)
 | [],_ => by simp [insP]
 | y :: r,h => by
  obtain ⟨h1,h2⟩ := List.pairwise_cons.1 h
  unfold insP
  split
  ·rename_i hx
   refine List.pairwise_cons.2 ⟨fun z hz => ?_,h⟩
   rcases List.mem_cons.1 hz with rfl | hz
   ·exact hx
   ·exact yV2 hx (h1 z hz)
  ·rename_i hx
   refine List.pairwise_cons.2 ⟨fun z hz => ?_,zZ4 x h2⟩
   rcases List.mem_cons.1 ((zZ5 x r).subset hz) with rfl | hz
   ·exact yV3 hx
   ·exact h1 z hz
theorem zz6 : ∀ l,(zp0 l).Pairwise (fun a b => leqP a b = true)
 | [] => .nil
 | x :: r => zZ4 x (zz6 r)
def zE1 : List PD → Bool
 | [] => true
 | x :: r => r.all (fun y => decide (x.1 ≠ y.1)) && zE1 r
theorem zE0 : ∀ {l : List PD},zE1 l = true ↔ l.Pairwise (fun a b => a.1 ≠ b.1)
 | [] => by simp [zE1]
 | x :: r => by simp [zE1,List.pairwise_cons,zE0 (l := r)]
theorem xm8 {l : List PD} (h : zE1 l = true) {x y : PD} (hx : x ∈ l) (hy : y ∈ l) (e : x.1 = y.1) : x = y := by
 rw [zE0] at h
 induction l with
 | nil => cases hx
 | cons z r ih =>
  obtain ⟨h1,h2⟩ := List.pairwise_cons.1 h
  rcases List.mem_cons.1 hx with hx1 | hx1
  ·rcases List.mem_cons.1 hy with hy1 | hy1
   ·rw [hx1,hy1]
   ·subst hx1; exact absurd e (h1 y hy1)
  ·rcases List.mem_cons.1 hy with hy1 | hy1
   ·subst hy1; exact absurd e.symm (h1 x hx1)
   ·exact ih h2 hx1 hy1
theorem yW3 {l m : List PD} (h : l.Perm m) : zE1 l = true → zE1 m = true := by
 rw [zE0,zE0]
 exact fun k => h.pairwise k (fun hab => hab.symm)
theorem yd6 {l m : List PD} (hd : zE1 l = true) (hp : m.Perm l) (hs : m.Pairwise (fun a b => leqP a b = true)) : m = zp0 l := by
 refine List.Perm.eq_of_pairwise (le := fun x y => leqP x y = true) (fun a b ha hb h1 h2 => ?_) hs (zz6 l) (hp.trans (zu1 l).symm)
 rw [zU9] at h1 h2
 exact xm8 hd (hp.subset ha) ((zu1 l).subset hb) (List.le_antisymm h1 h2)
def zr7 (gs : List FuncId) : List AV → Heap → Option (AV × Heap)
 | [.own l ver n,.fn g []],h => match h[l]? with
  | some (.arrX false none 2 ver' rows true) => match yH5 rows with
   | some ps => if gs.contains g ∧ ver = ver' ∧ n = ps.length ∧ n ≤ big ∧ zE1 ps = true then some (.tup [],h.set l (.arr 2 ver ((zp0 ps).map zv3) true)) else none
   | none => none
  | _ => none
 | _,_ => none
end Go.Proofs.YtopiadllkglamaaGreatDoor
namespace Go.Proofs.YtopiadllkglamaaGreatDoor
open Go.RowKit
def yz1 (p : PD) : AV × AV := (.str p.1,.str p.2)
def decE : List (AV × AV) → Option (List PD)
 | [] => some []
 | (.str p,.str d) :: r => (decE r).map ((p,d) :: ·)
 | _ => none
theorem xn4 : ∀ {es : List (AV × AV)} {ps : List PD},decE es = some ps → es = ps.map yz1
 | [],ps,h => by simp [decE] at h; subst h; rfl
 | r :: rs,ps,h => by
  unfold decE at h
  split at h
  ·rename_i e; cases e
  ·rename_i p d r' e
   cases e
   simp only [Option.map_eq_some_iff] at h
   obtain ⟨qs,h1,rfl⟩ := h
   rw [xn4 h1]; rfl
  ·cases h
def pick (ps : List PD) (b : Bs → Bool) (seen : List Nat) : List PD := (seen.filterMap fun i => ps[i]?).filter fun p => b p.1
theorem xc1 {ps : List PD} {b : Bs → Bool} {seen : List Nat} {i : Nat} {p : PD} (h : ps[i]? = some p) : pick ps b (seen ++ [i]) = pick ps b seen ++ (if b p.1 then [p] else []) := by
 simp only [pick,List.filterMap_append,List.filter_append,List.filterMap_cons,h,List.filterMap_nil,List.filter_cons,List.filter_nil]
theorem xv1 (ps : List PD) : (List.range ps.length).filterMap (fun i => ps[i]?) = ps := by
 apply List.ext_getElem?
 intro i
 induction ps generalizing i with
 | nil => simp
 | cons x r ih =>
  rw [List.length_cons,List.range_succ_eq_map,List.filterMap_cons]
  simp only [List.getElem?_cons_zero,List.filterMap_map]
  cases i with
  | zero => rfl
  | succ i =>
   rw [List.getElem?_cons_succ,List.getElem?_cons_succ,← ih i]
   congr 1
theorem xv6 {ps : List PD} {b : Bs → Bool} {seen : List Nat} (hn : seen.Nodup) (hs : ∀ i ∈ seen,i < ps.length) (hall : ∀ i,i < ps.length → i ∈ seen) : (pick ps b seen).Perm (ps.filter fun p => b p.1) := by
 have hp : seen.Perm (List.range ps.length) := (List.perm_ext_iff_of_nodup hn List.nodup_range).2 fun a => ⟨fun h => List.mem_range.2 (hs a h),fun h => hall a (List.mem_range.1 h)⟩
 have := (hp.filterMap fun i => ps[i]?).filter fun p => b p.1
 rw [xv1] at this
 exact this
def left (n : Nat) (seen : List Nat) : List Nat := (List.range n).filter fun i => !seen.contains i
theorem xx9 {n : Nat} {seen : List Nat} (h : left n seen = []) : ∀ i,i < n → i ∈ seen := by
 intro i hi
 have := List.filter_eq_nil_iff.1 h i (List.mem_range.2 hi)
 simpa using this
theorem xy0 {n : Nat} {seen : List Nat} {i : Nat} : i ∈ left n seen ↔ i < n ∧ i ∉ seen := by
 simp [left]
theorem xe7 {n : Nat} {seen : List Nat} {i : Nat} (hi : i ∈ left n seen) : (left n (seen ++ [i])).length < (left n seen).length := by
 have e : left n (seen ++ [i]) = (left n seen).filter fun k => k != i := by
  simp only [left,List.filter_filter]
  refine List.filter_congr fun k _ => ?_
  by_cases h : k = i
  ·subst h; simp
  ·simp [h]
 rw [e]
 exact List.length_filter_lt_length_iff_exists.2 ⟨i,hi,by simp⟩
theorem yH3 {l : List PD} {p : PD → Bool} (h : zE1 l = true) : zE1 (l.filter p) = true := by
 rw [zE0] at *
 exact h.filter p
end Go.Proofs.YtopiadllkglamaaGreatDoor
namespace Go.Proofs.YtopiadllkglamaaGreatDoor
open Go.RowKit Go.IntWalk
def zu9 : List (List AV) → Option (List Bs)
 | [] => some []
 | [.str s] :: r => (zu9 r).map (s :: ·)
 | _ => none
def zx8 (xs : List Bs) : List (List AV) := xs.map fun s => [.str s]
theorem zP6 : ∀ {rows : List (List AV)} {xs : List Bs},zu9 rows = some xs → rows = zx8 xs
 | [],xs,h => by simp [zu9] at h; subst h; rfl
 | r :: rs,xs,h => by
  unfold zu9 at h
  split at h
  ·rename_i e; cases e
  ·rename_i s rs' e
   cases e
   simp only [Option.map_eq_some_iff] at h
   obtain ⟨ys,h1,rfl⟩ := h
   rw [zP6 h1]; rfl
  ·cases h
theorem ya5 {xs : List Bs} {i : Nat} {s : Bs} (h : xs[i]? = some s) : (zx8 xs)[i]? = some [.str s] := by simp [zx8,h]
@[simp] theorem xN6 {xs : List Bs} : (zx8 xs).length = xs.length := by simp [zx8]
def zu4 {α : Type} [DecidableEq α] (x : α) (i : Nat) : List α → Int
 | [] => -1
 | y :: r => if x = y then i else zu4 x (i + 1) r
def zw2 : List AV → Option AV
 | [.sl a,.str s] => match zu9 a with
  | some x => if x.length ≤ big then some (.int .i64 (zu4 s 0 x)) else none
  | none => none
 | _ => none
theorem zZ6 (G : Gam) (r : AV) (xs : List Bs) (s : Bs) (hb : xs.length ≤ big) : ∀ (rest : List Bs) (i : Nat),xs.drop i = rest → i + rest.length = xs.length → r = .int .i64 (zu4 s i rest) →
  zi3 G [5] Mc.q16_L0 0 [.blk 0,.seq (.seq (.reg [⟨none,some 4,true,.mv,[.c (.int .i64 (-1))]⟩]) .ret)] (zb0 Rs.q16 r)
  [(0,.sl (zx8 xs)),(1,.str s),(4,.int .i64 0),(5,.junk),(7,.int .i64 xs.length),(8,.int .i64 i)] []
 | [],i,hd,hn,hr => by
  refine zb3 (Mc.q16_L0.eq_1) ?_
  simp at hn
  simp [zu4] at hr
  subst hr
  simp [zc0,trunc,zm1,low,lowH,zc2,zh3,hn,zb0,Rs.q16,zx3,resL,zX7,view]
 | x :: rest,i,hd,hn,hr => by
  refine zb3 (Mc.q16_L0.eq_1) ?_
  simp at hn
  have hi : (i : Int) < xs.length := by omega
  have hx : xs[i]? = some x := by have := congrArg (·[0]?) hd; simpa using this
  have hxd : xs.drop (i + 1) = rest := by rw [← List.drop_drop,hd]; rfl
  have hw : IntKind.i64.wrap ((i : Int) + 1) = ((i + 1 : Nat) : Int) := by unfold big at hb; rw [i64_in _ (by omega)]; rfl
  by_cases he : s = x
  ·have hbe : (s == x) = true := by simp [he]
   simp only [zu4,if_pos he] at hr
   subst hr
   simp [zc0,trunc,zm1,low,lowH,zc2,zh3,hi,zD3 (ya5 hx),cut,zy6,hbe,zb0,Rs.q16,zx3,resL,zX7,view]
  ·have hbe : (s == x) = false := by simp [he]
   simp only [zu4,if_neg he] at hr
   simp [zc0,trunc,zm1,low,lowH,zc2,zh3,hi,zD3 (ya5 hx),cut,zy6,hbe,hw]
   refine ze8 ?_
   have ih := zZ6 G r xs s hb rest (i + 1) hxd (by omega) hr
   simpa [zc0,trunc,zm1,low,lowH,lowB] using ih
theorem yx8 (G : Gam) (args : List AV) (r : AV) (h : zw2 args = some r) : wpM G Mc.q16 (zb0 Rs.q16 r) [] (za2 Ks.q16 args) [] := by
 unfold zw2 at h
 split at h
 ·rename_i a s
  split at h
  ·rename_i xs h1
   have := zP6 h1; subst this
   split at h
   ·rename_i hb
    injection h with h
    rw [zc8]
    have ih := zZ6 G r xs s hb xs 0 rfl (by simp) h.symm
    simpa [Mc.q16,za2,Ks.q16,ze1] using ih
   ·cases h
  ·cases h
 ·cases h
def zg9 : List AV → Option AV
 | [.sl a,.str s] => match zu9 a with
  | some x => if x.length ≤ big then some (.bool (!ltB (zu4 s 0 x) 0)) else none
  | none => none
 | _ => none
theorem zT6 (G : Gam) (hG : G Fn.q16 = some (.pure zw2)) (args : List AV) (r : AV) (h : zg9 args = some r) : wpM G Mc.q14 (zb0 Rs.q14 r) [] (za2 Ks.q14 args) [] := by
 unfold zg9 at h
 split at h
 ·rename_i a s
  split at h
  ·rename_i xs h1
   split at h
   ·rename_i hb
    injection h with h
    subst h
    have hc : ∀ s2 h,opV G s2 h (.call Fn.q16) (some [.sl a,.str s]) = some (.int .i64 (zu4 s 0 xs),h) := fun s2 h => zb5 hG rfl (by simp [zw2,h1,hb]) (.inl rfl)
    rw [zc8]
    simp [Mc.q14,za2,Ks.q14,hc,zb0,Rs.q14,zx3,resL,zX7,view]
   ·cases h
  ·cases h
 ·cases h
end Go.Proofs.YtopiadllkglamaaGreatDoor
namespace Go.Proofs.YtopiadllkglamaaGreatDoor
open Go.RowKit
def yR3 (G : Gam) (idx : FuncId) : List AV → Heap → Option (AV × Heap)
 | [.own l ver n,fv],h => if n = 3 then (match G idx with
  | some (.gen F) => (match F [.own l ver 3,fv] h with
   | some (.int .i64 k,h1) => if k = 2 then (match h1[l]? with
    | some (.arrX false none 2 ver' rows true) => (match rows with
     | [a,b,[_,_]] => if ver = ver' then some (.own l ver 2,h1.set l (.arr 2 ver [a,b,[.str [],.str []]] true)) else none
     | _ => none)
    | _ => none) else none
   | _ => none)
  | _ => none) else none
 | _,_ => none
theorem yl3 {P : Program} {t e ty : TypeId} {z : Value} {b o c : Nat} {w w' : World} (ht : P.underlying t = some (.slice e)) (hv : ∀ w,(zeroValue e).run P w = .ok z w) (hz : (Builtin.zeroCells z.cells 1).toList = z.cells.toList) (hs : (storeCells ⟨b,o,none⟩ z.cells.toList).run P w = .ok () w') :
  (Builtin.clear_ #[t] ty #[.slice (some ⟨b,o,none⟩) 1 c]).run P w = .ok (.tuple #[]) w' := by
 simp [Builtin.clear_,run_underlying ht,hv,hz,hs]
theorem xN9 {P : Program} {gv : Gv} {f idx : FuncId} {t e : TypeId} {G : Gam} (hG : GamOK P gv G) (ht : P.underlying t = some (.slice e)) (hs : zh8 P e = some 2)
  (hv : ∀ w,(zeroValue e).run P w = .ok (.agg #[.string ⟨#[]⟩,.string ⟨#[]⟩]) w)
  (hW : ∀ (blk cap : Nat) (fv : Value) (w : World) (R S : World → Prop),3 ≤ cap →
   (Calls P idx #[.slice (some ⟨blk,0,none⟩) 3 cap,fv] w fun e w' => e = .returned (.int .i64 2) ∧ R w') →
   (∀ w',R w' → ∃ w2,(∀ ty,(Builtin.clear_ #[t] ty #[.slice (some ⟨blk,4,none⟩) 1 (cap - 2)]).run P w' = .ok (.tuple #[]) w2) ∧ S w2) →
   Calls P f #[.slice (some ⟨blk,0,none⟩) 3 cap,fv] w fun e w' => e = .returned (.slice (some ⟨blk,0,none⟩) 2 cap) ∧ S w') : zl3 P gv f (yR3 G idx) := by
 intro B C h w args r h' vals hgv hi hr hF
 unfold yR3 at hF
 split at hF
 ·rename_i l ver n fv
  split at hF
  ·rename_i hn3
   subst hn3
   split at hF
   ·rename_i F hGi
    split at hF
    ·rename_i k h1 hF1
     split at hF
     ·rename_i hk
      subst hk
      split at hF
      ·rename_i ver' rows hl1
       split at hF
       ·rename_i a b c d
        split at hF
        ·rename_i hver
         subst hver
         simp only [Option.some.injEq,Prod.mk.injEq] at hF; obtain ⟨rfl,rfl⟩ := hF
         have hr0 := hr
         obtain ⟨v,us,e1,hvv,hr⟩ := hr.inv_cons
         obtain ⟨v2,us,rfl,hv2,hr⟩ := hr.inv_cons
         have := hr.inv_nil; subst this
         have hvals : vals = #[v,v2] := by apply Array.ext'; simpa using e1
         subst hvals
         cases hvv with
         | own _ _ _ r0 har hcap =>
          have hc := hG.ok idx _ hGi B C h w _ _ _ _ hgv hi hr0 hF1
          refine (hW r0.block r0.cap v2 w (fun w' => ∃ D,C.Le D ∧ Inv B D h1 w' ∧ Keep B w w') (fun w2 => ∃ D,C.Le D ∧ Inv B D (h1.set l (.arr 2 ver [a,b,[.str [],.str []]] true)) w2 ∧ Keep B w w2) hcap (hc.mono ?_) ?_).mono ?_
          ·rintro e w' ⟨v',D,rfl,q1,q2,q3,q4⟩
           rw [zd4 q3]
           exact ⟨rfl,D,q1,q2,q4⟩
          ·rintro w' ⟨D,q1,q2,q3⟩
           have har' := q1.ar _ _ _ har
           have hsz : r0.size = 2 := by
            rcases q2.ok l _ hl1 with ⟨k1,_⟩ | ⟨r',cur,k1,k2,k3,k4,k5,k6,k7,k8,k8',k9,k10,k11,k12⟩
            ·rw [har'] at k1; cases k1
            ·rw [har'] at k1; injection k1 with k1; injection k1 with k1; subst k1; exact k11
           have hx : Rel D (.eptr l ver 2 0) (.pointer (some ⟨r0.block,2 * r0.size + 0,none⟩)) := .eptr l ver 2 0 r0 har'
           have hy : Rel (D.at false) (.agg [.str [],.str []]) (.agg #[.string ⟨#[]⟩,.string ⟨#[]⟩]) := .agg _ _ rfl (fun i c v hc hv => by
            match i with
            | 0 => simp at hc hv; subst hc hv; exact .str []
            | 1 => simp at hc hv; subst hc hv; exact .str []
            | _ + 2 => simp at hc)
           obtain ⟨w2,s1,s2,s3⟩ := zO0 (P := P) (ne := false) (t := e) (size := 2) q2 hs hx hy hl1 (row := [c,d]) rfl rfl (by decide) rfl (by simp)
           rw [hsz] at s1
           refine ⟨w2,fun ty => yl3 ht hv (by kernel_rfl) ?_,D,q1,s2,q3.trans s3⟩
           simp only [Instr.storeAt,Instr.sureAddr,Sem.run_bind,Sem.run_pure,Result.andThen_ok,storeVar,zd3 hs] at s1
           simpa [Value.cells] using s1
          ·rintro e w' ⟨rfl,D,q1,q2,q3⟩
           exact ⟨_,D,rfl,q1,q2,.own l ver 2 r0 (q1.ar _ _ _ har) (by omega),q3⟩
        ·cases hF
       ·cases hF
      ·cases hF
     ·cases hF
    ·cases hF
   ·cases hF
  ·cases hF
 ·cases hF
end Go.Proofs.YtopiadllkglamaaGreatDoor
namespace Go.Proofs.YtopiadllkglamaaGreatDoor
open Go.RowKit
theorem zX8 {P : Program} {gv : Gv} {f : FuncId} {F F' : List AV → Option AV} (h : zd0 P gv f F) (hle : ∀ args r,F' args = some r → F args = some r) : zd0 P gv f F' :=
 fun I w args r vals hI hg hr hF => h I w args r vals hI hg hr (hle args r hF)
theorem xz1 {P : Program} {gv : Gv} {f : FuncId} {F F' : List AV → Heap → Option (AV × Heap)} (h : zl3 P gv f F) (hle : ∀ args h r,F' args h = some r → F args h = some r) : zl3 P gv f F' :=
 fun B C h0 w args r h' vals hg hi hr hF => h B C h0 w args r h' vals hg hi hr (hle args h0 _ hF)
def at1 (G : Gam) (f : FuncId) (args : List AV) : Option AV := match G f with
 | some (.pure F) => F args
 | _ => none
def zR0 (args0 : List AV) (r0 : AV) : List AV → Option AV := fun args => if zQ5 args args0 then some r0 else none
theorem zS0 {P : Program} {gv : Gv} {G : Gam} (hG : GamOK P gv G) {f : FuncId} {args0 : List AV} {r0 : AV} (h : at1 G f args0 = some r0) : zd0 P gv f (zR0 args0 r0) := by
 unfold at1 at h
 split at h
 ·rename_i F hF
  exact zX8 (hG.ok f _ hF) fun args r' hr => by
   unfold zR0 at hr
   split at hr
   ·rename_i he
    injection hr with hr; subst hr
    rw [zr4 _ _ he]; exact h
   ·cases hr
 ·cases h
def F_or (F F' : List AV → Option AV) : List AV → Option AV := fun args => match F args with
 | some r => some r
 | none => F' args
theorem yF5 {P : Program} {gv : Gv} {f : FuncId} {F F' : List AV → Option AV} (h : zd0 P gv f F) (h' : zd0 P gv f F') : zd0 P gv f (F_or F F') :=
 fun I w args r vals hI hg hr hF => by
  unfold F_or at hF
  split at hF
  ·rename_i r' hr'
   injection hF with hF; subst hF
   exact h I w args _ vals hI hg hr hr'
  ·exact h' I w args r vals hI hg hr hF
def at1G (G : Gam) (f : FuncId) (args : List AV) (h : Heap) : Option (AV × Heap) := match G f with
 | some (.gen F) => F args h
 | _ => none
def yC6 (args0 : List AV) (h0 : Heap) (r0 : AV × Heap) : List AV → Heap → Option (AV × Heap) := fun args h => if zQ5 args args0 && zM5 h h0 then some r0 else none
theorem yD7 {P : Program} {gv : Gv} {G : Gam} (hG : GamOK P gv G) {f : FuncId} {args0 : List AV} {h0 : Heap} {r0 : AV × Heap} (h : at1G G f args0 h0 = some r0) : zl3 P gv f (yC6 args0 h0 r0) := by
 unfold at1G at h
 split at h
 ·rename_i F hF
  exact xz1 (hG.ok f _ hF) fun args h' r' hr => by
   unfold yC6 at hr
   split at hr
   ·rename_i he
    simp only [Bool.and_eq_true] at he
    injection hr with hr; subst hr
    rw [zr4 _ _ he.1,zD5 _ _ he.2]; exact h
   ·cases hr
 ·cases h
def xR8 (F F' : List AV → Heap → Option (AV × Heap)) : List AV → Heap → Option (AV × Heap) := fun args h => match F args h with
 | some r => some r
 | none => F' args h
theorem xK0 {P : Program} {gv : Gv} {f : FuncId} {F F' : List AV → Heap → Option (AV × Heap)} (h : zl3 P gv f F) (h' : zl3 P gv f F') : zl3 P gv f (xR8 F F') :=
 fun B C h0 w args r h1 vals hg hi hr hF => by
  unfold xR8 at hF
  split at hF
  ·rename_i r' hr'
   injection hF with hF; subst hF
   exact h B C h0 w args _ _ vals hg hi hr hr'
  ·exact h' B C h0 w args r h1 vals hg hi hr hF
end Go.Proofs.YtopiadllkglamaaGreatDoor
