/- What a row's reading of an argument says,as abstract values. What the bound of the second form gives (the page UptoLemmas,for this seat). -/
import Derived.Test.YtpefhfiehfkocaaGreatDoorAm9
import Derived.ChangeArms
import Derived.WideShapes
import Derived.DataReads
import Derived.Below
import Derived.Test.YtpefhfiehfkocaaGreatDoorRows
namespace Go.Proofs.YtpefhfiehfkocaaGreatDoor
open Go.RowKit Go.WideShapes
section
variable {H:Type}
mutual
def cellsD:DataW H→List AV
 | .lit (.bool b)=>[.bool b]
 | .lit (.int k n)=>[.int k n]
 | .lit (.string s)=>[.str s]
 | .nil=>[.sl []]
 | .slice elems _=>[.sl (rowsD elems)]
 | .agg parts=>flatD parts
 | _=>[.junk]
def rowsD:List (DataW H)→List (List AV)
 | []=>[]
 | d::ds=>cellsD d::rowsD ds
def flatD:List (DataW H)→List AV
 | []=>[]
 | d::ds=>cellsD d++flatD ds
end
theorem rowsD_map:∀ ds:List (DataW H),rowsD ds=ds.map cellsD
 | []=>by simp [rowsD]
 | d::ds=>by simp [rowsD,rowsD_map ds]
end
def layB(P:Program):List Field→Nat→Nat→Bool
 | [],o,n=>decide (o=n)
 | f::r,o,n=>decide (f.offset=o)&&layB P r (o+P.cellsOf f.type) n
def flatT(P:Program):Nat→TypeId→Bool
 | 0,_=>false
 | n+1,t=>match P.underlying t with
  | some .bool=>true
  | some (.int _)=>true
  | some .string=>true
  | some (.slice e)=>flatT P n e&&decide (0<P.cellsOf e)
  | some (.struct fs)=>fs.toList.all (fun f=>flatT P n f.type)&&layB P fs.toList 0 (P.cellsOf t)
  | _=>false
def imOf(w:World):Nat→Nat→Option Value:=fun b o=>match w.cell? ⟨b,o,none⟩with
 | some u=>if u.oneCell'=true then some u else none
 | none=>none
theorem imOf_holds(w:World):Holds (imOf w) w:=by
 refine ⟨fun b o u h=>?_,fun b o u h=>?_⟩
 ·unfold imOf at h
  split at h
  ·rename_i v hv
   split at h
   ·injection h with h; subst h; exact hv
   ·cases h
  ·cases h
 ·unfold imOf at h
  split at h
  ·split at h
   ·injection h with h; subst h; assumption
   ·cases h
  ·cases h
theorem imOf_some{w:World}{b o:Nat}{u:Value}(h:w.cell? ⟨b,o,none⟩=some u)(h1:u.oneCell'=true):imOf w b o=some u:=by
 simp [imOf,h,h1]
def plainC:AV→Bool
 | .bool _ | .int _ _ | .str _ | .sl _=>true
 | _=>false
theorem plainC_one{C:Cx}{a:AV}{v:Value}(h:Rel C a v)(hp:plainC a=true):v.oneCell'=true:=by
 cases h <;> first | rfl | (simp [plainC]at hp)
section
variable {H:Type} {enc:TypeId×Value→H} {P:Program} {w:World} {base:Nat} {spare:Nat→Bool} {held:Bool}
theorem struct_rel{cs:List Value}{part:Field→List Value}(hpart:∀ f,part f=(cs.drop f.offset).take (P.cellsOf f.type)):∀ (fs:List Field) (ds:List (DataW H)) (o:Nat),layB P fs o cs.length=true→ds.length=fs.length→
  (∀ (i:Nat) f d,fs[i]?=some f→ds[i]?=some d→RelL (Cx.pure (imOf w)) (cellsD d) (part f)∧(cellsD d).all plainC=true)→RelL (Cx.pure (imOf w)) (flatD ds) (cs.drop o)∧(flatD ds).all plainC=true
 | [],ds,o,hl,hlen,_=>by
  simp only [layB,decide_eq_true_eq]at hl;have:ds=[]:=List.length_eq_zero_iff.1 (by simpa using hlen);subst this;subst hl;simp [flatD];exact .nil
 | f::fs,[],o,hl,hlen,_=>by simp at hlen
 | f::fs,d::ds,o,hl,hlen,hr=>by
  simp only [layB,Bool.and_eq_true,decide_eq_true_eq]at hl;obtain ⟨h1,h2⟩:=hr 0 f d rfl rfl;obtain ⟨h3,h4⟩:=struct_rel hpart fs ds (o+P.cellsOf f.type) hl.2 (by simpa using hlen) (fun i f d hf hd=>hr (i+1) f d (by simpa using hf) (by simpa using hd));rw [hpart,hl.1]at h1;refine ⟨?_,by simp [flatD,h2,h4]⟩
  have:=h1.append h3;rw [← List.drop_drop,List.take_append_drop]at this;simpa [flatD] using this
theorem trod_rel:∀ (n:Nat) (t:TypeId) (fuel:Nat) (cs:List Value) (x:DataW H×List MemPlace),flatT P n t=true→DataW.trod enc P w base spare held fuel t cs=some x→
  RelL (Cx.pure (imOf w)) (cellsD x.1) cs∧(cellsD x.1).all plainC=true
 | 0,t,fuel,cs,x,hf,h=>by simp [flatT]at hf
 | n+1,t,fuel,cs,x,hf,h=>by
  unfold flatT at hf;split at hf
  ·rename_i ht
   obtain ⟨b,rfl,rfl⟩:=DataW.trod_bool ht h;exact ⟨by simpa [cellsD] using RelL.cons (.bool b) .nil,by simp [cellsD,plainC]⟩
  ·rename_i k ht
   obtain ⟨m,rfl,rfl,_⟩:=DataW.trod_int ht h;exact ⟨by simpa [cellsD] using RelL.cons (.int k m) .nil,by simp [cellsD,plainC]⟩
  ·rename_i ht
   obtain ⟨s,rfl,rfl,_⟩:=DataW.trod_string ht h;refine ⟨?_,by simp [cellsD,plainC]⟩
   have:Rel (Cx.pure (imOf w)) (.str s.data.toList) (.string ⟨s.data.toList.toArray⟩):=.str _;have e:(⟨s.data.toList.toArray⟩:ByteArray)=s:=by cases s; rfl
   rw [e]at this;simpa [cellsD] using RelL.cons this .nil
  ·rename_i e ht
   rcases DataW.trod_slice ht h with ⟨rfl,rfl⟩ | ⟨a,len,cap,elems,rest,fu,_,rfl,rfl,hb,hl,hm,hlen,hel,_,_⟩
   ·exact ⟨by simpa [cellsD] using RelL.cons .slnil .nil,by simp [cellsD,plainC]⟩
   ·refine ⟨?_,by simp [cellsD,plainC]⟩
    simp only [cellsD,rowsD_map];refine .cons ?_ .nil
    have each:∀ i y,elems[i]?=some y→∃ cs',w.cells? base (a.add (i*P.cellsOf e)) (P.cellsOf e)=some cs'∧DataW.trod enc P w base spare held fu e cs'=some y:=fun i y hy=>by
     have hi:i<len:=by rw [← hlen]; exact (List.getElem?_eq_some_iff.1 hy).1
     have:=hel i hi;rw [hy]at this;simpa [Option.bind_eq_some_iff] using this
    simp only [Bool.and_eq_true,decide_eq_true_eq]at hf;obtain ⟨hf,hc⟩:=hf;by_cases h0:len=0
    ·subst h0
     have:elems=[]:=List.length_eq_zero_iff.1 hlen;subst this;exact .slz a cap
    ·have hgo:True:=trivial
     ·obtain ⟨y0,hy0⟩:∃ y,elems[0]?=some y:=⟨elems[0]'(by omega),by simp⟩
      obtain ⟨cs0,h1,h2⟩:=each 0 y0 hy0;have hspot:a.spot=none:=by
       have:=(World.cells?_some h1).2.2 0 (by omega);cases hv:cs0[0]? with
       | none=>
        have:=List.getElem?_eq_none_iff.1 hv;rw [(World.cells?_some h1).2.1]at this; omega
       | some v=>
        rw [hv]at this;simpa [Addr.add] using World.cell?_spot this
      obtain ⟨b,o,sp⟩:=a;simp only at hspot; subst hspot;have hlm:(elems.map (fun y=>cellsD y.1)).length=len:=by simpa using hlen
      have hrows:(elems.map (·.1)).map cellsD=elems.map fun y=>cellsD y.1:=by rw [List.map_map]; rfl
      rw [hrows];have row:∀ i r,(elems.map fun y=>cellsD y.1)[i]?=some r→∃ cs',RelL (Cx.pure (imOf w)) r cs'∧r.all plainC=true∧cs'.length=P.cellsOf e∧∀ j,j<P.cellsOf e→w.cell? ⟨b,o+i*P.cellsOf e+j,none⟩=cs'[j]?:=fun i r hr=>by
       simp only [List.getElem?_map,Option.map_eq_some_iff]at hr;obtain ⟨y,hy,rfl⟩:=hr;obtain ⟨cs',g1,g2⟩:=each i y hy;obtain ⟨r1,r2⟩:=trod_rel n e fu cs' y hf g2;obtain ⟨_,q2,q3⟩:=World.cells?_some g1;exact ⟨cs',r1,r2,q2,fun j hj=>by have:=q3 j hj; rwa [Addr.add_lit,Addr.add_lit]at this⟩
      have goal:Rel (Cx.pure (imOf w)) (.sl (elems.map fun y=>cellsD y.1)) (.slice (some ⟨b,o,none⟩) (elems.map fun y=>cellsD y.1).length cap):=by
       refine .sl _ b o cap (P.cellsOf e) (fun i j=>(w.cell? ⟨b,o+i*P.cellsOf e+j,none⟩).getD undef) (by rw [hlm]; exact hl) (fun i r hr=>?_) (fun i r j c hr hc=>?_) (fun i r j c hr hc=>?_)
       ·obtain ⟨cs',r1,_,q2,_⟩:=row i r hr
        rw [r1.1]; exact q2
       ·obtain ⟨cs',r1,r2,q2,q3⟩:=row i r hr
        obtain ⟨v,hv,hrel⟩:=r1.get hc;have hj:j<P.cellsOf e:=by rw [← q2,← r1.1]; exact (List.getElem?_eq_some_iff.1 hc).1
        have hcell:=q3 j hj;rw [hv]at hcell;have hone:=plainC_one hrel (List.all_eq_true.1 r2 c (List.mem_of_getElem? hc));show imOf w _ _=_
        rw [imOf_some hcell hone];simp [hcell]
       ·obtain ⟨cs',r1,r2,q2,q3⟩:=row i r hr
        obtain ⟨v,hv,hrel⟩:=r1.get hc;have hj:j<P.cellsOf e:=by rw [← q2,← r1.1]; exact (List.getElem?_eq_some_iff.1 hc).1
        have hcell:=q3 j hj;rw [hv]at hcell;simp only [hcell,Option.getD_some];exact hrel
      rw [hlm]at goal;exact goal
  ·rename_i fs ht
   obtain ⟨xs,m,_,rfl,hlc,hlen,hfs⟩:=DataW.trod_struct ht h;simp only [Bool.and_eq_true]at hf;simp only [cellsD];have:=struct_rel (H:=H) (P:=P) (w:=w) (cs:=cs) (part:=fun f=>(cs.drop f.offset).take (P.cellsOf f.type)) (fun _=>rfl) fs.toList (xs.map (·.1)) 0 (by rw [hlc]; exact hf.2) (by simpa using hlen) (fun i f d h1 h2=>?_)
   ·simpa using this
   ·simp only [List.getElem?_map,Option.map_eq_some_iff]at h2
    obtain ⟨y,hy,rfl⟩:=h2;have h1':fs[i]?=some f:=by simpa using h1
    have:=hfs i f h1';rw [hy]at this;exact trod_rel n f.type m _ y (List.all_eq_true.1 hf.1 f (List.mem_of_getElem? h1)) this
  ·cases hf
end
end Go.Proofs.YtpefhfiehfkocaaGreatDoor
namespace Go.Proofs.YtpefhfiehfkocaaGreatDoor.bulks
theorem append{H:Type}(l r:List (DataW H)):Rows.uptoBulkAll (l++r)=Rows.uptoBulkAll l+Rows.uptoBulkAll r:=by
 induction l with
 | nil=>simp [Rows.uptoBulkAll]
 | cons x l ih=>simp only [List.cons_append,Rows.uptoBulkAll,ih]; omega
theorem slice_elems{H:Type}(elems spare:List (DataW H)):Rows.uptoBulkAll elems+1≤Rows.uptoBulk (.slice elems spare):=by
 simp only [Rows.uptoBulk]
 omega
theorem bound{H:Type}{l:List (DataW H)}(hk:Rows.uptoSmall H l=true):Rows.uptoBulkAll l≤1048576:=by
 simpa [Rows.uptoSmall] using hk
end Go.Proofs.YtpefhfiehfkocaaGreatDoor.bulks
