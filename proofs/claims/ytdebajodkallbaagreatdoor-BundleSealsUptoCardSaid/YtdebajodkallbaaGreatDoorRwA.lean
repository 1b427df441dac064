/- What a row's reading of an argument sa -/
import Derived.Test.YtdebajodkallbaaGreatDoorAm9
import Derived.Test.YtdebajodkallbaaGreatDoorRows
namespace Go.Proofs.YtdebajodkallbaaGreatDoor
open Go.RowKit
section
open Go.WideShapes
section
variable{H:Type}
mutual def gG:DataW H->List AV
 |.lit (.bool b)=>[.bool b]|.lit (.int k n)=>[.int k n]|.lit (.string s)=>[.str s]|.nil=>[.sl []]|.slice c _=>[.sl (yS c)]|.agg e=>vP e|_=>[.junk]def yS:List (DataW H)->List (List AV)
 |[]=>[]|d::a=>gG d::yS a def vP:List (DataW H)->List AV
 |[]=>[]|d::a=>gG d++vP a end
theorem zM1:∀a:List (DataW H),yS a=a.map gG
 |[]=>by simp[yS]|d::a=>by simp[yS,zM1 a]
end
def JW(P:Program):List Field->Nat->Nat->Bool
 |[],o,n=>decide (o=n)|f::r,o,n=>decide (f.offset=o)&&JW P r (o+P.cellsOf f.type) n
def BE(P:Program):Nat->TypeId->Bool
 |0,_=>false|n+1,t=>match P.underlying t with
  |some .bool=>true|some (.int _)=>true|some .string=>true|some (.slice e)=>BE P n e&&decide (0<P.cellsOf e)|some (.struct a)=>a.toList.all (fun f=>BE P n f.type)&&JW P a.toList 0 (P.cellsOf t)|_=>false
def mR(w:World):Nat->Nat->Option Value:=fun b o=>match w.cell? ⟨b,o,none⟩with
 |some u=>if u.oneCell'=true then some u else none|none=>none
theorem yR8(w:World):Holds (mR w) w:=by
 refine⟨fun b o u h=>?_,fun b o u h=>?_⟩
 ·unfold mR at h;split at h
  ·rename_i v a;split at h;·injection h with h;subst h;exact a
   ·cases h
  ·cases h
 ·unfold mR at h;split at h
  ·split at h;·injection h with h;subst h;assumption
   ·cases h
  ·cases h
theorem zv8{w:World}{b o:Nat}{u:Value}(h:w.cell? ⟨b,o,none⟩=some u)(a:u.oneCell'=true):mR w b o=some u:=by simp[mR,h,a]
def sJ:AV->Bool
 |.bool _|.int _ _|.str _|.sl _=>true|_=>false
theorem xf2{C:Cx}{a:AV}{v:Value}(h:Rel C a v)(b:sJ a=true):v.oneCell'=true:=by cases h<;>first|rfl|(simp[sJ]at b)
section
variable{H:Type}{enc:TypeId×Value->H}{P:Program}{w:World}{base:Nat}{spare:Nat->Bool}{held:Bool}
theorem zP4{cs:List Value}{part:Field->List Value}(h:∀f,part f=(cs.drop f.offset).take (P.cellsOf f.type)):∀(c:List Field)(a:List (DataW H))(o:Nat),JW P c o cs.length=true->a.length=c.length->(∀(i:Nat)f d,c[i]?=some f->a[i]?=some d->RelL (Cx.pure (mR w)) (gG d) (part f)/\(gG d).all sJ=true)->RelL (Cx.pure (mR w)) (vP a) (cs.drop o)/\(vP a).all sJ=true
 |[],a,o,b,e,_=>by
  simp only[JW,decide_eq_true_eq]at b;have:a=[]:=List.length_eq_zero_iff.1 (by simpa using e);subst this;subst b;simp[vP];exact .nil|f::c,[],o,b,e,_=>by simp at e|f::c,d::a,o,b,e,j=>by
  simp only[JW,Bool.and_eq_true,decide_eq_true_eq]at b;obtain⟨g,k⟩:=j 0 f d rfl rfl;obtain⟨l,h4⟩:=zP4 h c a (o+P.cellsOf f.type) b.2 (by simpa using e) (fun i f d n m=>j (i+1) f d (by simpa using n) (by simpa using m));rw[h,b.1]at g;refine⟨?_,by simp[vP,k,h4]⟩;have:=g.append l;rw[<-List.drop_drop,List.take_append_drop]at this;simpa[vP]using this
theorem SJ:∀(n:Nat)(t:TypeId)(L:Nat)(A:List Value)(x:DataW H×List MemPlace),BE P n t=true->DataW.trod enc P w base spare held L t A=some x->RelL (Cx.pure (mR w)) (gG x.1) A/\(gG x.1).all sJ=true
 |0,t,L,A,x,g,h=>by simp[BE]at g|n+1,t,L,A,x,g,h=>by
  unfold BE at g;split at g
  ·rename_i l;obtain⟨b,rfl,rfl⟩:=DataW.trod_bool l h;exact⟨by simpa[gG]using RelL.cons (.bool b) .nil,by simp[gG,sJ]⟩
  ·rename_i c2 l;obtain⟨m,rfl,rfl,_⟩:=DataW.trod_int l h;exact⟨by simpa[gG]using RelL.cons (.int c2 m) .nil,by simp[gG,sJ]⟩
  ·rename_i l;obtain⟨s,rfl,rfl,_⟩:=DataW.trod_string l h;refine⟨?_,by simp[gG,sJ]⟩;have:Rel (Cx.pure (mR w)) (.str s.data.toList) (.string ⟨s.data.toList.toArray⟩):=.str _;have e:(⟨s.data.toList.toArray⟩:ByteArray)=s:=by cases s;rfl
   rw[e]at this;simpa[gG]using RelL.cons this .nil
  ·rename_i e l;rcases DataW.trod_slice l h with⟨rfl,rfl⟩|⟨a,O,K,k,d2,U,_,rfl,rfl,hb,hl,hm,G,a2,_,_⟩;·exact⟨by simpa[gG]using RelL.cons .slnil .nil,by simp[gG,sJ]⟩
   ·refine⟨?_,by simp[gG,sJ]⟩;simp only[gG,zM1];refine .cons ?_ .nil;have S:∀i y,k[i]?=some y->∃d,w.cells? base (a.add (i*P.cellsOf e)) (P.cellsOf e)=some d/\DataW.trod enc P w base spare held U e d=some y:=fun i y D=>by
     have hi:i<O:=by rw[<-G];exact(List.getElem?_eq_some_iff.1 D).1
     have:=a2 i hi;rw[D]at this;simpa[Option.bind_eq_some_iff]using this
    simp only[Bool.and_eq_true,decide_eq_true_eq]at g;obtain⟨g,u⟩:=g;by_cases h0:O=0
    ·subst h0;have:k=[]:=List.length_eq_zero_iff.1 G;subst this;exact .slz a K
    ·have d1:True:=trivial
     ·obtain⟨y0,c1⟩:∃y,k[0]?=some y:=⟨k[0]'(by omega),by simp⟩;obtain⟨Y,E,M⟩:=S 0 y0 c1;have X:a.spot=none:=by
       have:=(World.cells?_some E).2.2 0 (by omega);cases C:Y[0]? with
       |none=>
        have:=List.getElem?_eq_none_iff.1 C;rw[(World.cells?_some E).2.1]at this;omega|some v=>
        rw[C]at this;simpa[Addr.add]using World.cell?_spot this
      obtain⟨b,o,sp⟩:=a;simp only at X;subst X;have W:(k.map (fun y=>gG y.1)).length=O:=by simpa using G
      have b3:(k.map (·.1)).map gG=k.map fun y=>gG y.1:=by rw[List.map_map];rfl
      rw[b3];have Q:∀i r,(k.map fun y=>gG y.1)[i]?=some r->∃d,RelL (Cx.pure (mR w)) r d/\r.all sJ=true/\d.length=P.cellsOf e/\∀j,j<P.cellsOf e->w.cell? ⟨b,o+i*P.cellsOf e+j,none⟩=d[j]?:=fun i r q=>by
       simp only[List.getElem?_map,Option.map_eq_some_iff]at q;obtain⟨y,D,rfl⟩:=q;obtain⟨d,Z,g2⟩:=S i y D;obtain⟨p,J⟩:=SJ n e U d y g g2;obtain⟨_,z,I⟩:=World.cells?_some Z;exact⟨d,p,J,z,fun j F=>by have:=I j F;rwa[Addr.add_lit,Addr.add_lit]at this⟩
      have V:Rel (Cx.pure (mR w)) (.sl (k.map fun y=>gG y.1)) (.slice (some ⟨b,o,none⟩) (k.map fun y=>gG y.1).length K):=by
       refine .sl _ b o K (P.cellsOf e) (fun i j=>(w.cell? ⟨b,o+i*P.cellsOf e+j,none⟩).getD undef) (by rw[W];exact hl) (fun i r q=>?_) (fun i r j c q u=>?_) (fun i r j c q u=>?_)
       ·obtain⟨d,p,_,z,_⟩:=Q i r q;rw[p.1];exact z
       ·obtain⟨d,p,J,z,I⟩:=Q i r q;obtain⟨v,C,N⟩:=p.get u;have F:j<P.cellsOf e:=by rw[<-z,<-p.1];exact(List.getElem?_eq_some_iff.1 u).1
        have B:=I j F;rw[C]at B;have b2:=xf2 N (List.all_eq_true.1 J c (List.mem_of_getElem? u));show mR w _ _=_;rw[zv8 B b2];simp[B]
       ·obtain⟨d,p,J,z,I⟩:=Q i r q;obtain⟨v,C,N⟩:=p.get u;have F:j<P.cellsOf e:=by rw[<-z,<-p.1];exact(List.getElem?_eq_some_iff.1 u).1
        have B:=I j F;rw[C]at B;simp only[B,Option.getD_some];exact N
      rw[W]at V;exact V
  ·rename_i T l;obtain⟨xs,m,_,rfl,b1,G,a3⟩:=DataW.trod_struct l h;simp only[Bool.and_eq_true]at g;simp only[gG];have:=zP4 (H:=H) (P:=P) (w:=w) (cs:=A) (part:=fun f=>(A.drop f.offset).take (P.cellsOf f.type)) (fun _=>rfl) T.toList (xs.map (·.1)) 0 (by rw[b1];exact g.2) (by simpa using G) (fun i f c3 E M=>?_);·simpa using this
   ·simp only[List.getElem?_map,Option.map_eq_some_iff]at M;obtain⟨y,D,rfl⟩:=M;have a1:T[i]?=some f:=by simpa using E
    have:=a3 i f a1;rw[D]at this;exact SJ n f.type m _ y (List.all_eq_true.1 g.1 f (List.mem_of_getElem? E)) this
  ·cases g
end
end
end Go.Proofs.YtdebajodkallbaaGreatDoor
namespace Go.Proofs.YtdebajodkallbaaGreatDoor.bulks
theorem xb6{H:Type}(d:DataW H):1<=Rows.uptoBulk d:=by cases d with
 |lit l=>cases l<;>simp[Rows.uptoBulk]|nil=>simp[Rows.uptoBulk]|ptr d=>simp[Rows.uptoBulk]|slice a spare=>simp[Rows.uptoBulk]|agg c=>simp[Rows.uptoBulk]|iface t d=>simp[Rows.uptoBulk]|map b=>simp[Rows.uptoBulk]|held h=>simp[Rows.uptoBulk]
theorem append{H:Type}(l r:List (DataW H)):Rows.uptoBulkAll (l++r)=Rows.uptoBulkAll l+Rows.uptoBulkAll r:=by induction l with
 |nil=>simp[Rows.uptoBulkAll]|cons x l a=>simp only[List.cons_append,Rows.uptoBulkAll,a];omega
theorem length_le{H:Type}(l:List (DataW H)):l.length<=Rows.uptoBulkAll l:=by induction l with
 |nil=>simp[Rows.uptoBulkAll]|cons x r a=>have:=xb6 x;simp only[Rows.uptoBulkAll,List.length_cons];omega
theorem slice_le{H:Type}(a spare:List (DataW H)):a.length+spare.length+1<=Rows.uptoBulk (.slice a spare):=by
 have b:=length_le a;have c:=length_le spare;simp only[Rows.uptoBulk];omega
theorem slice_elems{H:Type}(a spare:List (DataW H)):Rows.uptoBulkAll a+1<=Rows.uptoBulk (.slice a spare):=by
 simp only[Rows.uptoBulk];omega
theorem bound{H:Type}{l:List (DataW H)}(a:Rows.uptoSmall H l=true):Rows.uptoBulkAll l<=1048576:=by simpa[Rows.uptoSmall]using a
end Go.Proofs.YtdebajodkallbaaGreatDoor.bulks
