/- What a row's reading of an argument sa -/
import Derived.Test.YtpefhfiehfkocaaGreatDoorAm9
import Derived.Test.YtpefhfiehfkocaaGreatDoorRows
namespace Go.Proofs.YtpefhfiehfkocaaGreatDoor
open Go.RowKit
section
open Go.WideShapes
section
variable{H:Type}
mutual def jB:DataW H->List AV
 |.lit (.bool b)=>[.bool b]|.lit (.int k n)=>[.int k n]|.lit (.string s)=>[.str s]|.nil=>[.sl []]|.slice c _=>[.sl (ML c)]|.agg e=>AC e|_=>[.junk]def ML:List (DataW H)->List (List AV)
 |[]=>[]|d::a=>jB d::ML a def AC:List (DataW H)->List AV
 |[]=>[]|d::a=>jB d++AC a end
theorem zX2:∀a:List (DataW H),ML a=a.map jB
 |[]=>by simp[ML]|d::a=>by simp[ML,zX2 a]
end
def KR(P:Program):List Field->Nat->Nat->Bool
 |[],o,n=>decide (o=n)|f::r,o,n=>decide (f.offset=o)&&KR P r (o+P.cellsOf f.type) n
def EG(P:Program):Nat->TypeId->Bool
 |0,_=>false|n+1,t=>match P.underlying t with
  |some .bool=>true|some (.int _)=>true|some .string=>true|some (.slice e)=>EG P n e&&decide (0<P.cellsOf e)|some (.struct a)=>a.toList.all (fun f=>EG P n f.type)&&KR P a.toList 0 (P.cellsOf t)|_=>false
def mU(w:World):Nat->Nat->Option Value:=fun b o=>match w.cell? ⟨b,o,none⟩with
 |some u=>if u.oneCell'=true then some u else none|none=>none
theorem yT0(w:World):Holds (mU w) w:=by
 refine⟨fun b o u h=>?_,fun b o u h=>?_⟩
 ·unfold mU at h;split at h
  ·rename_i v a;split at h;·injection h with h;subst h;exact a
   ·cases h
  ·cases h
 ·unfold mU at h;split at h
  ·split at h;·injection h with h;subst h;assumption
   ·cases h
  ·cases h
theorem zG9{w:World}{b o:Nat}{u:Value}(h:w.cell? ⟨b,o,none⟩=some u)(a:u.oneCell'=true):mU w b o=some u:=by simp[mU,h,a]
def rO:AV->Bool
 |.bool _|.int _ _|.str _|.sl _=>true|_=>false
theorem xj3{C:Cx}{a:AV}{v:Value}(h:Rel C a v)(b:rO a=true):v.oneCell'=true:=by cases h<;>first|rfl|(simp[rO]at b)
section
variable{H:Type}{enc:TypeId×Value->H}{P:Program}{w:World}{base:Nat}{spare:Nat->Bool}{held:Bool}
theorem yc2{cs:List Value}{part:Field->List Value}(h:∀f,part f=(cs.drop f.offset).take (P.cellsOf f.type)):∀(c:List Field)(a:List (DataW H))(o:Nat),KR P c o cs.length=true->a.length=c.length->(∀(i:Nat)f d,c[i]?=some f->a[i]?=some d->RelL (Cx.pure (mU w)) (jB d) (part f)/\(jB d).all rO=true)->RelL (Cx.pure (mU w)) (AC a) (cs.drop o)/\(AC a).all rO=true
 |[],a,o,b,e,_=>by
  simp only[KR,decide_eq_true_eq]at b;have:a=[]:=List.length_eq_zero_iff.1 (by simpa using e);subst this;subst b;simp[AC];exact .nil|f::c,[],o,b,e,_=>by simp at e|f::c,d::a,o,b,e,j=>by
  simp only[KR,Bool.and_eq_true,decide_eq_true_eq]at b;obtain⟨g,k⟩:=j 0 f d rfl rfl;obtain⟨l,h4⟩:=yc2 h c a (o+P.cellsOf f.type) b.2 (by simpa using e) (fun i f d n m=>j (i+1) f d (by simpa using n) (by simpa using m));rw[h,b.1]at g;refine⟨?_,by simp[AC,k,h4]⟩;have:=g.append l;rw[<-List.drop_drop,List.take_append_drop]at this;simpa[AC]using this
theorem zg2:∀(n:Nat)(t:TypeId)(L:Nat)(A:List Value)(x:DataW H×List MemPlace),EG P n t=true->DataW.trod enc P w base spare held L t A=some x->RelL (Cx.pure (mU w)) (jB x.1) A/\(jB x.1).all rO=true
 |0,t,L,A,x,g,h=>by simp[EG]at g|n+1,t,L,A,x,g,h=>by
  unfold EG at g;split at g
  ·rename_i l;obtain⟨b,rfl,rfl⟩:=DataW.trod_bool l h;exact⟨by simpa[jB]using RelL.cons (.bool b) .nil,by simp[jB,rO]⟩
  ·rename_i c2 l;obtain⟨m,rfl,rfl,_⟩:=DataW.trod_int l h;exact⟨by simpa[jB]using RelL.cons (.int c2 m) .nil,by simp[jB,rO]⟩
  ·rename_i l;obtain⟨s,rfl,rfl,_⟩:=DataW.trod_string l h;refine⟨?_,by simp[jB,rO]⟩;have:Rel (Cx.pure (mU w)) (.str s.data.toList) (.string ⟨s.data.toList.toArray⟩):=.str _;have e:(⟨s.data.toList.toArray⟩:ByteArray)=s:=by cases s;rfl
   rw[e]at this;simpa[jB]using RelL.cons this .nil
  ·rename_i e l;rcases DataW.trod_slice l h with⟨rfl,rfl⟩|⟨a,O,K,k,d2,U,_,rfl,rfl,hb,hl,hm,G,a2,_,_⟩;·exact⟨by simpa[jB]using RelL.cons .slnil .nil,by simp[jB,rO]⟩
   ·refine⟨?_,by simp[jB,rO]⟩;simp only[jB,zX2];refine .cons ?_ .nil;have S:∀i y,k[i]?=some y->∃d,w.cells? base (a.add (i*P.cellsOf e)) (P.cellsOf e)=some d/\DataW.trod enc P w base spare held U e d=some y:=fun i y D=>by
     have hi:i<O:=by rw[<-G];exact(List.getElem?_eq_some_iff.1 D).1
     have:=a2 i hi;rw[D]at this;simpa[Option.bind_eq_some_iff]using this
    simp only[Bool.and_eq_true,decide_eq_true_eq]at g;obtain⟨g,u⟩:=g;by_cases h0:O=0
    ·subst h0;have:k=[]:=List.length_eq_zero_iff.1 G;subst this;exact .slz a K
    ·have d1:True:=trivial
     ·obtain⟨y0,c1⟩:∃y,k[0]?=some y:=⟨k[0]'(by omega),by simp⟩;obtain⟨Y,E,M⟩:=S 0 y0 c1;have X:a.spot=none:=by
       have:=(World.cells?_some E).2.2 0 (by omega);cases C:Y[0]? with
       |none=>
        have:=List.getElem?_eq_none_iff.1 C;rw[(World.cells?_some E).2.1]at this;omega|some v=>
        rw[C]at this;simpa[Addr.add]using World.cell?_spot this
      obtain⟨b,o,sp⟩:=a;simp only at X;subst X;have W:(k.map (fun y=>jB y.1)).length=O:=by simpa using G
      have b3:(k.map (·.1)).map jB=k.map fun y=>jB y.1:=by rw[List.map_map];rfl
      rw[b3];have Q:∀i r,(k.map fun y=>jB y.1)[i]?=some r->∃d,RelL (Cx.pure (mU w)) r d/\r.all rO=true/\d.length=P.cellsOf e/\∀j,j<P.cellsOf e->w.cell? ⟨b,o+i*P.cellsOf e+j,none⟩=d[j]?:=fun i r q=>by
       simp only[List.getElem?_map,Option.map_eq_some_iff]at q;obtain⟨y,D,rfl⟩:=q;obtain⟨d,Z,g2⟩:=S i y D;obtain⟨p,J⟩:=zg2 n e U d y g g2;obtain⟨_,z,I⟩:=World.cells?_some Z;exact⟨d,p,J,z,fun j F=>by have:=I j F;rwa[Addr.add_lit,Addr.add_lit]at this⟩
      have V:Rel (Cx.pure (mU w)) (.sl (k.map fun y=>jB y.1)) (.slice (some ⟨b,o,none⟩) (k.map fun y=>jB y.1).length K):=by
       refine .sl _ b o K (P.cellsOf e) (fun i j=>(w.cell? ⟨b,o+i*P.cellsOf e+j,none⟩).getD undef) (by rw[W];exact hl) (fun i r q=>?_) (fun i r j c q u=>?_) (fun i r j c q u=>?_)
       ·obtain⟨d,p,_,z,_⟩:=Q i r q;rw[p.1];exact z
       ·obtain⟨d,p,J,z,I⟩:=Q i r q;obtain⟨v,C,N⟩:=p.get u;have F:j<P.cellsOf e:=by rw[<-z,<-p.1];exact(List.getElem?_eq_some_iff.1 u).1
        have B:=I j F;rw[C]at B;have b2:=xj3 N (List.all_eq_true.1 J c (List.mem_of_getElem? u));show mU w _ _=_;rw[zG9 B b2];simp[B]
       ·obtain⟨d,p,J,z,I⟩:=Q i r q;obtain⟨v,C,N⟩:=p.get u;have F:j<P.cellsOf e:=by rw[<-z,<-p.1];exact(List.getElem?_eq_some_iff.1 u).1
        have B:=I j F;rw[C]at B;simp only[B,Option.getD_some];exact N
      rw[W]at V;exact V
  ·rename_i T l;obtain⟨xs,m,_,rfl,b1,G,a3⟩:=DataW.trod_struct l h;simp only[Bool.and_eq_true]at g;simp only[jB];have:=yc2 (H:=H) (P:=P) (w:=w) (cs:=A) (part:=fun f=>(A.drop f.offset).take (P.cellsOf f.type)) (fun _=>rfl) T.toList (xs.map (·.1)) 0 (by rw[b1];exact g.2) (by simpa using G) (fun i f c3 E M=>?_);·simpa using this
   ·simp only[List.getElem?_map,Option.map_eq_some_iff]at M;obtain⟨y,D,rfl⟩:=M;have a1:T[i]?=some f:=by simpa using E
    have:=a3 i f a1;rw[D]at this;exact zg2 n f.type m _ y (List.all_eq_true.1 g.1 f (List.mem_of_getElem? E)) this
  ·cases g
end
end
end Go.Proofs.YtpefhfiehfkocaaGreatDoor
namespace Go.Proofs.YtpefhfiehfkocaaGreatDoor.bulks
theorem append{H:Type}(l r:List (DataW H)):Rows.uptoBulkAll (l++r)=Rows.uptoBulkAll l+Rows.uptoBulkAll r:=by induction l with
 |nil=>simp[Rows.uptoBulkAll]|cons x l a=>simp only[List.cons_append,Rows.uptoBulkAll,a];omega
theorem bound{H:Type}{l:List (DataW H)}(a:Rows.uptoSmall H l=true):Rows.uptoBulkAll l<=1048576:=by simpa[Rows.uptoSmall]using a
end Go.Proofs.YtpefhfiehfkocaaGreatDoor.bulks
