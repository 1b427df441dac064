/- New places,and places that turn: the invariant goes on. Places that turn: a store,an append,a map's entry; arrays that are frozen. Operations that make or turn something: how they are resolved,and -/
import Derived.Test.YtpefhfiehfkocaaGreatDoorAm2
import Derived.Deep.AppendSrc
import Derived.Laws.MakeOwn
namespace Go.Proofs.YtpefhfiehfkocaaGreatDoor
open Go.RowKit
section
variable {P:Program} {B:Base} {C D:Cx} {h:Heap} {w w':World}
structure Ext (w:World) (C D:Cx):Prop where
 le:C.Le D
 im:∀ b o,b<w.heap.size→D.im b o=C.im b o
theorem Ext.refl(w:World)(C:Cx):Ext w C C:=⟨.refl C,fun _ _ _=>rfl⟩
theorem pure_le(h:∀ b o u,C.im b o=some u→D.im b o=some u):(Cx.pure C.im).Le (Cx.pure D.im):=⟨h,(fun _ _ x=>by cases x),(fun _ _ _ x=>by cases x)⟩
theorem BlkOK.ext{l:Nat}{blk:Blk}(hk:BlkOK B C w l blk)(he:Ext w C D)(hb:Below w.heap.size w w'):BlkOK B D w' l blk:=by
 have heap:∀ b o,w.heap[b]?=some o→w'.heap[b]?=some o:=fun b o hc=>(hb.block b (heap_lt hc)).trans hc
 have hp:=pure_le he.le.im
 cases blk with
 | cellsT tg vs=>
  obtain ⟨b,cur,e,h1,h2,h3,h4,h5,h6⟩:=hk;exact ⟨b,cur,e,he.le.bl _ _ h1,h2,heap _ _ h3,fun o=>by rw [he.im b o (heap_lt h3)]; exact h4 o,h5.mono he.le,h6⟩
 | arrX ne tg sz ver rows wr=>
  rcases hk with ⟨h1,h2⟩ | ⟨r,cur,h1,h2,h3,h4,h5,h6,h7,h8,h8',h9,h10,h11⟩
  ·exact .inl ⟨he.le.ar _ _ _ h1,h2⟩
  ·refine .inr ⟨r,cur,he.le.ar _ _ _ h1,h2,h3,h4,h5,heap _ _ h6,h7,h8.mono (he.le.at ne),h8',fun e o=>by rw [he.im _ o (heap_lt h6)]; exact h9 e o,fun e j u hj hu=>he.le.im _ _ _ (h10 e j u hj hu),h11⟩
 | map es=>
  obtain ⟨b,ms,ck,h1,h2,h3,h4,h5,h6⟩:=hk;exact ⟨b,ms,ck,he.le.bl _ _ h1,h2,heap _ _ h3,h4,fun i k v m x y=>⟨(h5 i k v m x y).1.mono hp,(h5 i k v m x y).2.mono hp⟩,h6⟩
 | iter s pos=>
  obtain ⟨b,h1,h2,h3⟩:=hk;exact ⟨b,he.le.bl _ _ h1,h2,heap _ _ h3⟩
 | lp busy x=>
  obtain ⟨b,r,h1,h2,h3,h4⟩:=hk;exact ⟨b,r,he.le.bl _ _ h1,h2,h3,heap _ _ h4⟩
 | mit m n seen last=>
  obtain ⟨b,mo,h1,h2,h3,h4⟩:=hk;exact ⟨b,mo,he.le.bl _ _ h1,h2,heap _ _ h3,h4.mono he.le⟩
 | dead=>trivial
theorem blockOf_ext{l:Nat}{blk:Blk}(hk:BlkOK B C w l blk)(he:C.Le D):blockOf D l blk=blockOf C l blk:=by
 cases blk with
 | cellsT tg vs=>
  obtain ⟨b,cur,e,h1,_⟩:=hk;simp [blockOf,h1,he.bl _ _ h1]
 | arrX ne tg sz ver rows wr=>
  rcases hk with ⟨h1,h2⟩ | ⟨r,cur,h1,_⟩
  ·simp [blockOf,h1,he.ar _ _ _ h1]
  ·simp [blockOf,h1,he.ar _ _ _ h1]
 | map es=>
  obtain ⟨b,ms,ck,h1,_⟩:=hk;simp [blockOf,h1,he.bl _ _ h1]
 | iter s pos=>
  obtain ⟨b,h1,_⟩:=hk;simp [blockOf,h1,he.bl _ _ h1]
 | lp busy x=>
  obtain ⟨b,r,h1,_⟩:=hk;simp [blockOf,h1,he.bl _ _ h1]
 | mit m n seen last=>
  obtain ⟨b,mo,h1,_⟩:=hk;simp [blockOf,h1,he.bl _ _ h1]
 | dead=>rfl
theorem blockOf_lt{l b:Nat}{blk:Blk}(hk:BlkOK B C w l blk)(hb:blockOf C l blk=some b):b<w.heap.size:=by
 cases blk with
 | cellsT tg vs=>
  obtain ⟨b',cur,e,h1,_,h3,_⟩:=hk;simp only [blockOf,h1,Option.some.injEq]at hb; subst hb; exact heap_lt h3
 | arrX ne tg sz ver rows wr=>
  rcases hk with ⟨h1,h2⟩ | ⟨r,cur,h1,_,_,_,_,h6,_⟩
  ·simp [blockOf,h1]at hb
  ·simp only [blockOf,h1,Option.some.injEq]at hb; subst hb; exact heap_lt h6
 | map es=>
  obtain ⟨b',ms,ck,h1,_,h3,_⟩:=hk;simp only [blockOf,h1,Option.some.injEq]at hb; subst hb; exact heap_lt h3
 | iter s pos=>
  obtain ⟨b',h1,_,h3⟩:=hk;simp only [blockOf,h1,Option.some.injEq]at hb; subst hb; exact heap_lt h3
 | lp busy x=>
  obtain ⟨b',r,h1,_,_,h3⟩:=hk;simp only [blockOf,h1,Option.some.injEq]at hb; subst hb; exact heap_lt h3
 | mit m n seen last=>
  obtain ⟨b',mo,h1,_,h3,_⟩:=hk;simp only [blockOf,h1,Option.some.injEq]at hb; subst hb; exact heap_lt h3
 | dead=>simp [blockOf]at hb
theorem Inv.extend(hi:Inv B C h w)(he:Ext w C D)(hb:Below w.heap.size w w')(him:∀ b o u,D.im b o=some u→w'.cell? ⟨b,o,none⟩=some u)(hone:∀ b o u,D.im b o=some u→u.oneCell'=true)
  (hfr:∀ l,h.length≤l→D.bl l=none∧∀ v,D.ar l v=none) (hfv:∀ (l:Nat) ne tg sz ver rows wr,h[l]?=some (.arrX ne tg sz ver rows wr)→∀ v,ver<v→D.ar l v=none):Inv B D h w':=by
 refine ⟨him,hone,fun l blk hl=>(hi.ok l blk hl).ext he hb,fun l l' blk blk' b h1 h2 h3 h4=>?_,hfr,hfv,Nat.le_trans hi.hB hb.size,fun b o u hlt hu=>hi.low b o u hlt (by rw [← he.im b o (Nat.lt_of_lt_of_le hlt hi.hB)]; exact hu),fun g r hg=>(hi.gl g r hg).mono (pure_le he.le.im),hi.tb.mono (fun k _ hk=>hb.block k hk),hi.rcl,hi.cle.trans he.le⟩
 rw [blockOf_ext (hi.ok l blk h1) he.le]at h3
 rw [blockOf_ext (hi.ok l' blk' h2) he.le]at h4
 exact hi.inj l l' blk blk' b h1 h2 h3 h4
theorem Inv.add(hi:Inv B C h w)(he:Ext w C D)(hb:Below w.heap.size w w')(him:∀ b o u,D.im b o=some u→w'.cell? ⟨b,o,none⟩=some u)(hone:∀ b o u,D.im b o=some u→u.oneCell'=true){blk:Blk}
  (hok:BlkOK B D w' h.length blk) (hnew:∀ b,blockOf D h.length blk=some b→w.heap.size≤b)
  (hbl:∀ l,l≠h.length→D.bl l=C.bl l) (har:∀ l v,l≠h.length→D.ar l v=C.ar l v)
  (hfv:∀ ne tg sz ver rows wr,blk=.arrX ne tg sz ver rows wr→∀ v,ver<v→D.ar h.length v=none):Inv B D (h++[blk]) w':=by
 have old:∀ (l:Nat) k,(h++[blk])[l]?=some k→(l<h.length∧h[l]?=some k)∨(l=h.length∧k=blk):=by
  intro l k hk;by_cases hl:l<h.length
  ·rw [List.getElem?_append_left hl]at hk; exact .inl ⟨hl,hk⟩
  ·rw [List.getElem?_append_right (by omega)]at hk
   have:l-h.length=0:=by
    rcases Nat.eq_zero_or_pos (l-h.length)with e | e
    ·exact e
    ·rw [List.getElem?_eq_none (by simp; omega)]at hk; cases hk
   rw [this]at hk; simp at hk;exact .inr ⟨by omega,hk.symm⟩
 refine ⟨him,hone,fun l k hk=>?_,fun l l' k k' b h1 h2 h3 h4=>?_,fun l hl=>?_,fun l ne tg sz ver rows wr hk v hv=>?_,Nat.le_trans hi.hB hb.size,fun b o u hlt hu=>hi.low b o u hlt (by rw [← he.im b o (Nat.lt_of_lt_of_le hlt hi.hB)]; exact hu),fun g r hg=>(hi.gl g r hg).mono (pure_le he.le.im),hi.tb.mono (fun k _ hk=>hb.block k hk),fun l x hx=>by have:=hi.rcl l x hx; simp; omega,hi.cle.trans he.le⟩
 ·rcases old l k hk with ⟨_,h1⟩ | ⟨rfl,rfl⟩
  ·exact (hi.ok l k h1).ext he hb
  ·exact hok
 ·rcases old l k h1 with ⟨a1,a2⟩ | ⟨rfl,rfl⟩ <;> rcases old l' k' h2 with ⟨b1,b2⟩ | ⟨rfl,rfl⟩
  ·rw [blockOf_ext (hi.ok l k a2) he.le]at h3
   rw [blockOf_ext (hi.ok l' k' b2) he.le]at h4;exact hi.inj l l' k k' b a2 b2 h3 h4
  ·rw [blockOf_ext (hi.ok l k a2) he.le]at h3
   have:=blockOf_lt (hi.ok l k a2) h3;have:=hnew b h4;omega
  ·rw [blockOf_ext (hi.ok l' k' b2) he.le]at h4
   have:=blockOf_lt (hi.ok l' k' b2) h4;have:=hnew b h3;omega
  ·rfl
 ·simp at hl
  have:=hi.fr l (by omega);exact ⟨by rw [hbl l (by omega)]; exact this.1,fun v=>by rw [har l v (by omega)]; exact this.2 v⟩
 ·rcases old l _ hk with ⟨a1,a2⟩ | ⟨rfl,e⟩
  ·rw [har l v (by omega)]; exact hi.fv l ne tg sz ver rows wr a2 v hv
  ·exact hfv ne tg sz ver rows wr e.symm v hv
def Cx.addBl(C:Cx)(l b:Nat):Cx:={ C with bl:=fun k=>if k=l then some b else C.bl k }
def Cx.addAr(C:Cx)(l ver:Nat)(r:Option RowAt):Cx:={ C with ar:=fun k v=>if k=l∧v=ver then some r else C.ar k v }
theorem ext_addBl{l:Nat}(b:Nat)(hn:C.bl l=none):Ext w C (C.addBl l b):=
 ⟨⟨fun _ _ _ x=>x,fun k b' x=>by
  simp only [Cx.addBl]; split
  ·rename_i e; subst e; rw [hn]at x; cases x
  ·exact x,fun _ _ _ x=>x⟩,fun _ _ _=>rfl⟩
theorem ext_addAr{l ver:Nat}(r:Option RowAt)(hn:C.ar l ver=none):Ext w C (C.addAr l ver r):=
 ⟨⟨fun _ _ _ x=>x,fun _ _ x=>x,fun k v r' x=>by
  simp only [Cx.addAr]; split
  ·rename_i e; obtain ⟨rfl,rfl⟩:=e; rw [hn]at x; cases x
  ·exact x⟩,fun _ _ _=>rfl⟩
theorem below_alloc(w:World)(o:Obj):Below w.heap.size w (w.alloc o):=(Below.refl _ _).alloc (Nat.le_refl _) o
theorem below_drew(w:World):Below w.heap.size w w.drew:=(Below.refl _ _).drew
theorem im_grow(hi:Inv B C h w)(hb:Below w.heap.size w w'):∀ b o u,C.im b o=some u→w'.cell? ⟨b,o,none⟩=some u:=(hi.grow hb).im
theorem heap_new(w:World)(o:Obj):(w.alloc o).heap[w.heap.size]?=some o:=heap_alloc_new w o
theorem add_cellsT(hi:Inv B C h w){vs:List AV}{us:Array Value}(hr:RelL C vs us.toList)(e:TypeId){tg:Option TypeId}(htg:tagOK tg e) :
  Inv B (C.addBl h.length w.heap.size) (h++[.cellsT tg vs]) (w.alloc (.cells us e))∧Rel (C.addBl h.length w.heap.size) (.ptr h.length 0) (.pointer (some ⟨w.heap.size,0,none⟩))∧C.Le (C.addBl h.length w.heap.size):=by
 have hn:=(hi.fr h.length (Nat.le_refl _)).1
 have he:=ext_addBl (w:=w) w.heap.size hn
 have hbl:(C.addBl h.length w.heap.size).bl h.length=some w.heap.size:=by simp [Cx.addBl]
 refine ⟨hi.add he (below_alloc w _) (fun b o u x=>im_grow hi (below_alloc w _) b o u x) (fun b o u x=>hi.one b o u x) (blk:=.cellsT tg vs) ⟨w.heap.size,us,e,hbl,hi.hB,heap_new w _,fun o=>?_,hr.mono he.le,htg⟩ (fun b hb=>?_) (fun l hl=>by simp [Cx.addBl,hl]) (fun l v hl=>rfl) (fun ne tg sz ver rows wr e=>by cases e),.ptr _ _ _ hbl,he.le⟩
 ·cases hc:C.im w.heap.size o with
  | none=>exact hc
  | some u=>have:=cell_lt (hi.im _ _ _ hc); omega
 ·simp only [blockOf,hbl,Option.some.injEq]at hb; omega
theorem add_cells(hi:Inv B C h w){vs:List AV}{us:Array Value}(hr:RelL C vs us.toList)(e:TypeId) :
  Inv B (C.addBl h.length w.heap.size) (h++[.cells vs]) (w.alloc (.cells us e))∧Rel (C.addBl h.length w.heap.size) (.ptr h.length 0) (.pointer (some ⟨w.heap.size,0,none⟩))∧C.Le (C.addBl h.length w.heap.size):=add_cellsT hi hr e (tagOK_none e)
theorem add_map(hi:Inv B C h w) :
  Inv B (C.addBl h.length w.heap.size) (h++[.map []]) (w.alloc (.map #[] 0))∧Rel (C.addBl h.length w.heap.size) (.map h.length) (.map (some w.heap.size))∧C.Le (C.addBl h.length w.heap.size):=by
 have hn:=(hi.fr h.length (Nat.le_refl _)).1
 have he:=ext_addBl (w:=w) w.heap.size hn
 have hbl:(C.addBl h.length w.heap.size).bl h.length=some w.heap.size:=by simp [Cx.addBl]
 refine ⟨hi.add he (below_alloc w _) (fun b o u x=>im_grow hi (below_alloc w _) b o u x) (fun b o u x=>hi.one b o u x) (blk:=.map []) ⟨w.heap.size,#[],0,hbl,hi.hB,heap_new w _,rfl,(fun i k v m x=>by simp at x),rfl,fun i m x=>by simp at x⟩ (fun b hb=>?_) (fun l hl=>by simp [Cx.addBl,hl]) (fun l v hl=>rfl) (fun ne tg sz ver rows wr e=>by cases e),.map _ _ hbl,he.le⟩
 simp only [blockOf,hbl,Option.some.injEq]at hb; omega
theorem add_iter(hi:Inv B C h w)(s:List UInt8) :
  Inv B (C.addBl h.length w.heap.size) (h++[.iter s 0]) (w.alloc (.stringIter ⟨s.toArray⟩ 0))∧Rel (C.addBl h.length w.heap.size) (.ptr h.length 0) (.pointer (some ⟨w.heap.size,0,none⟩))∧C.Le (C.addBl h.length w.heap.size):=by
 have hn:=(hi.fr h.length (Nat.le_refl _)).1
 have he:=ext_addBl (w:=w) w.heap.size hn
 have hbl:(C.addBl h.length w.heap.size).bl h.length=some w.heap.size:=by simp [Cx.addBl]
 refine ⟨hi.add he (below_alloc w _) (fun b o u x=>im_grow hi (below_alloc w _) b o u x) (fun b o u x=>hi.one b o u x) (blk:=.iter s 0) ⟨w.heap.size,hbl,hi.hB,heap_new w _⟩ (fun b hb=>?_) (fun l hl=>by simp [Cx.addBl,hl]) (fun l v hl=>rfl) (fun ne tg sz ver rows wr e=>by cases e),.ptr _ _ _ hbl,he.le⟩
 simp only [blockOf,hbl,Option.some.injEq]at hb; omega
theorem add_mit(hi:Inv B C h w){m mo:Option Nat}(n last:Nat)(hm:mitB C m mo) :
  Inv B (C.addBl h.length w.heap.size) (h++[.mit m n [] last]) (w.alloc (.mapIter mo n #[] last))∧Rel (C.addBl h.length w.heap.size) (.ptr h.length 0) (.pointer (some ⟨w.heap.size,0,none⟩))∧C.Le (C.addBl h.length w.heap.size):=by
 have hn:=(hi.fr h.length (Nat.le_refl _)).1
 have he:=ext_addBl (w:=w) w.heap.size hn
 have hbl:(C.addBl h.length w.heap.size).bl h.length=some w.heap.size:=by simp [Cx.addBl]
 refine ⟨hi.add he (below_alloc w _) (fun b o u x=>im_grow hi (below_alloc w _) b o u x) (fun b o u x=>hi.one b o u x) (blk:=.mit m n [] last) ⟨w.heap.size,mo,hbl,hi.hB,heap_new w _,hm.mono he.le⟩ (fun b hb=>?_) (fun l hl=>by simp [Cx.addBl,hl]) (fun l v hl=>rfl) (fun ne tg sz ver rows wr e=>by cases e),.ptr _ _ _ hbl,he.le⟩
 simp only [blockOf,hbl,Option.some.injEq]at hb; omega
theorem add_nilT(hi:Inv B C h w)(tg:Option TypeId)(sz:Nat):Inv B (C.addAr h.length 0 none) (h++[.arrT tg sz 0 [] true]) w∧Rel (C.addAr h.length 0 none) (.own h.length 0 0) (.slice none 0 0)∧C.Le (C.addAr h.length 0 none):=by
 have hn:=(hi.fr h.length (Nat.le_refl _)).2 0
 have he:=ext_addAr (w:=w) none hn
 have har:(C.addAr h.length 0 none).ar h.length 0=some none:=by simp [Cx.addAr]
 refine ⟨hi.add he (Below.refl _ _) hi.im (fun b o u x=>hi.one b o u x) (blk:=.arrT tg sz 0 [] true) (.inl ⟨har,rfl⟩) (fun b hb=>by simp [blockOf,har]at hb) (fun l hl=>rfl) (fun l v hl=>by simp [Cx.addAr,hl]) (fun ne' tg' sz' ver rows wr e v hv=>?_),.ownnil _ _ har,he.le⟩
 injection e with e000 e00 e0 e1; subst e1
 simp only [Cx.addAr,true_and]
 rw [if_neg (by omega)]
 exact (hi.fr h.length (Nat.le_refl _)).2 v
theorem add_nil(hi:Inv B C h w)(sz:Nat):Inv B (C.addAr h.length 0 none) (h++[.arr sz 0 [] true]) w∧Rel (C.addAr h.length 0 none) (.own h.length 0 0) (.slice none 0 0)∧C.Le (C.addAr h.length 0 none):=add_nilT hi none sz
theorem add_arrV(hi:Inv B C h w){rows:List (List AV)}{cur:Array Value}{e:TypeId}{size cap:Nat}(hb:Below w.heap.size w w'){cv:Bool}(hn:w'.heap[w.heap.size]?=some (.cells cur e (RowAt.fz ⟨w.heap.size,cap,size,e,cv⟩)))(hcap:rows.length≤cap)(hmax:cap≤maxLen)
  (hsz:∀ row∈rows,row.length=size) (hcur:cur.size=cap*size) (hr:RelL (Cx.pure C.im) rows.flatten (cur.toList.take (rows.length*size))) (h1:∀ u∈cur.toList.take (rows.length*size),u.oneCell'=true) {tg:Option TypeId} (htg:tagArr tg e rows) :
  Inv B (C.addAr h.length 0 (some ⟨w.heap.size,cap,size,e,cv⟩)) (h++[.arrT tg size 0 rows true]) w'∧Rel (C.addAr h.length 0 (some ⟨w.heap.size,cap,size,e,cv⟩)) (.own h.length 0 rows.length) (.slice (some ⟨w.heap.size,0,none⟩) rows.length cap)∧
   C.Le (C.addAr h.length 0 (some ⟨w.heap.size,cap,size,e,cv⟩)):=by
 have hnn:=(hi.fr h.length (Nat.le_refl _)).2 0
 have he:=ext_addAr (w:=w) (some ⟨w.heap.size,cap,size,e,cv⟩) hnn
 have har:(C.addAr h.length 0 (some ⟨w.heap.size,cap,size,e,cv⟩)).ar h.length 0=some (some ⟨w.heap.size,cap,size,e,cv⟩):=by simp [Cx.addAr]
 refine ⟨hi.add he hb (fun b o u x=>im_grow hi hb b o u x) (fun b o u x=>hi.one b o u x) (blk:=.arrT tg size 0 rows true) (.inr ⟨_,cur,har,hi.hB,hcap,hmax,hsz,hn,hcur,hr,h1,fun _ o=>?_,(fun e=>by cases e),rfl,htg⟩) (fun b hb=>?_) (fun l hl=>rfl) (fun l v hl=>by simp [Cx.addAr,hl]) (fun ne' tg' sz' ver rows wr e v hv=>?_),.own _ _ _ ⟨w.heap.size,cap,size,e,cv⟩ har hcap,he.le⟩
 ·show C.im w.heap.size o=none
  cases hc:C.im w.heap.size o with
  | none=>rfl
  | some u=>have:=cell_lt (hi.im _ _ _ hc); omega
 ·simp only [blockOf,har,Option.some.injEq]at hb; omega
 ·injection e with e000 e00 e0 e1; subst e1
  simp only [Cx.addAr,true_and];rw [if_neg (by omega)];exact (hi.fr h.length (Nat.le_refl _)).2 v
theorem add_arrT(hi:Inv B C h w){rows:List (List AV)}{cur:Array Value}{e:TypeId}{size cap:Nat}(hb:Below w.heap.size w w')(hn:w'.heap[w.heap.size]?=some (.cells cur e (0,0)))(hcap:rows.length≤cap)(hmax:cap≤maxLen)
  (hsz:∀ row∈rows,row.length=size) (hcur:cur.size=cap*size) (hr:RelL (Cx.pure C.im) rows.flatten (cur.toList.take (rows.length*size))) (h1:∀ u∈cur.toList.take (rows.length*size),u.oneCell'=true) {tg:Option TypeId} (htg:tagArr tg e rows) :
  Inv B (C.addAr h.length 0 (some ⟨w.heap.size,cap,size,e,false⟩)) (h++[.arrT tg size 0 rows true]) w'∧Rel (C.addAr h.length 0 (some ⟨w.heap.size,cap,size,e,false⟩)) (.own h.length 0 rows.length) (.slice (some ⟨w.heap.size,0,none⟩) rows.length cap)∧
   C.Le (C.addAr h.length 0 (some ⟨w.heap.size,cap,size,e,false⟩)):=add_arrV (cv:=false) hi hb hn hcap hmax hsz hcur hr h1 htg
theorem add_arr(hi:Inv B C h w){rows:List (List AV)}{cur:Array Value}{e:TypeId}{size cap:Nat}(hb:Below w.heap.size w w')(hn:w'.heap[w.heap.size]?=some (.cells cur e (0,0)))(hcap:rows.length≤cap)(hmax:cap≤maxLen)
  (hsz:∀ row∈rows,row.length=size) (hcur:cur.size=cap*size) (hr:RelL (Cx.pure C.im) rows.flatten (cur.toList.take (rows.length*size))) (h1:∀ u∈cur.toList.take (rows.length*size),u.oneCell'=true) :
  Inv B (C.addAr h.length 0 (some ⟨w.heap.size,cap,size,e,false⟩)) (h++[.arr size 0 rows true]) w'∧Rel (C.addAr h.length 0 (some ⟨w.heap.size,cap,size,e,false⟩)) (.own h.length 0 rows.length) (.slice (some ⟨w.heap.size,0,none⟩) rows.length cap)∧
   C.Le (C.addAr h.length 0 (some ⟨w.heap.size,cap,size,e,false⟩)):=add_arrT hi hb hn hcap hmax hsz hcur hr h1 (tagArr_none e rows)
end
end Go.Proofs.YtpefhfiehfkocaaGreatDoor
namespace Go.Proofs.YtpefhfiehfkocaaGreatDoor
open Go.RowKit
section
variable {P:Program} {B:Base} {C D:Cx} {h:Heap} {w w':World}
theorem BlkOK.stay{l:Nat}{blk:Blk}(hk:BlkOK B C w l blk)(hle:C.Le D)(hb:∀ b,blockOf C l blk=some b→w'.heap[b]?=w.heap[b]?∧∀ o,D.im b o=C.im b o):BlkOK B D w' l blk:=by
 have hp:=pure_le hle.im
 cases blk with
 | cellsT tg vs=>
  obtain ⟨b,cur,e,h1,h2,h3,h4,h5,h6⟩:=hk;obtain ⟨a1,a2⟩:=hb b (by simp [blockOf,h1]);exact ⟨b,cur,e,hle.bl _ _ h1,h2,a1.trans h3,fun o=>by rw [a2]; exact h4 o,h5.mono hle,h6⟩
 | arrX ne tg sz ver rows wr=>
  rcases hk with ⟨h1,h2⟩ | ⟨r,cur,h1,h2,h3,h4,h5,h6,h7,h8,h8',h9,h10,h11⟩
  ·exact .inl ⟨hle.ar _ _ _ h1,h2⟩
  ·obtain ⟨a1,a2⟩:=hb r.block (by simp [blockOf,h1])
   exact .inr ⟨r,cur,hle.ar _ _ _ h1,h2,h3,h4,h5,a1.trans h6,h7,h8.mono (hle.at ne),h8',fun e o=>by rw [a2]; exact h9 e o,fun e j u hj hu=>hle.im _ _ _ (h10 e j u hj hu),h11⟩
 | map es=>
  obtain ⟨b,ms,ck,h1,h2,h3,h4,h5,h6⟩:=hk;obtain ⟨a1,a2⟩:=hb b (by simp [blockOf,h1]);exact ⟨b,ms,ck,hle.bl _ _ h1,h2,a1.trans h3,h4,fun i k v m x y=>⟨(h5 i k v m x y).1.mono hp,(h5 i k v m x y).2.mono hp⟩,h6⟩
 | iter s pos=>
  obtain ⟨b,h1,h2,h3⟩:=hk;obtain ⟨a1,a2⟩:=hb b (by simp [blockOf,h1]);exact ⟨b,hle.bl _ _ h1,h2,a1.trans h3⟩
 | lp busy x=>
  obtain ⟨b,r,h1,h2,h3,h4⟩:=hk;obtain ⟨a1,a2⟩:=hb b (by simp [blockOf,h1]);exact ⟨b,r,hle.bl _ _ h1,h2,h3,a1.trans h4⟩
 | mit m n seen last=>
  obtain ⟨b,mo,h1,h2,h3,h4⟩:=hk;obtain ⟨a1,a2⟩:=hb b (by simp [blockOf,h1]);exact ⟨b,mo,hle.bl _ _ h1,h2,a1.trans h3,h4.mono hle⟩
 | dead=>trivial
theorem blockOf_ge{n:Base}{l b:Nat}{blk:Blk}(hk:BlkOK n C w l blk)(hb:blockOf C l blk=some b):n≤b:=by
 cases blk with
 | cellsT tg vs=>
  obtain ⟨b',cur,e,h1,h2,h3,_⟩:=hk;simp only [blockOf,h1,Option.some.injEq]at hb; subst hb; exact h2
 | arrX ne tg sz ver rows wr=>
  rcases hk with ⟨h1,h2⟩ | ⟨r,cur,h1,h2,_⟩
  ·simp [blockOf,h1]at hb
  ·simp only [blockOf,h1,Option.some.injEq]at hb; subst hb; exact h2
 | map es=>
  obtain ⟨b',ms,ck,h1,h2,h3,_⟩:=hk;simp only [blockOf,h1,Option.some.injEq]at hb; subst hb; exact h2
 | iter s pos=>
  obtain ⟨b',h1,h2,h3⟩:=hk;simp only [blockOf,h1,Option.some.injEq]at hb; subst hb; exact h2
 | lp busy x=>
  obtain ⟨b',r,h1,h2,h3⟩:=hk;simp only [blockOf,h1,Option.some.injEq]at hb; subst hb; exact h2
 | mit m n seen last=>
  obtain ⟨b',mo,h1,h2,h3⟩:=hk;simp only [blockOf,h1,Option.some.injEq]at hb; subst hb; exact h2
 | dead=>simp [blockOf]at hb
theorem Inv.turn(hi:Inv B C h w){l:Nat}{blk blk':Blk}(hl:h[l]?=some blk)(hle:C.Le D)(hsize:w.heap.size≤w'.heap.size)
  (hot:∀ b,blockOf C l blk≠some b→b<w.heap.size→w'.heap[b]?=w.heap[b]?∧∀ o,D.im b o=C.im b o)
  (him:∀ b o u,D.im b o=some u→w'.cell? ⟨b,o,none⟩=some u) (hone:∀ b o u,D.im b o=some u→u.oneCell'=true)
  (hok:BlkOK B D w' l blk') (hblk':∀ b,blockOf D l blk'=some b→blockOf C l blk=some b∨w.heap.size≤b)
  (hfr:∀ k,h.length≤k→D.bl k=none∧∀ v,D.ar k v=none)
  (hfv:∀ (k:Nat) ne tg sz ver rows wr,(h.set l blk')[k]?=some (.arrX ne tg sz ver rows wr)→∀ v,ver<v→D.ar k v=none):Inv B D (h.set l blk') w':=by
 have hll:l<h.length:=(List.getElem?_eq_some_iff.1 hl).1
 have get:∀ (k:Nat) x,(h.set l blk')[k]?=some x→(k=l∧x=blk')∨(k≠l∧h[k]?=some x):=by
  intro k x hx;rw [List.getElem?_set]at hx;by_cases e:l=k
  ·subst e; rw [if_pos rfl,if_pos hll]at hx; injection hx with hx; exact .inl ⟨rfl,hx.symm⟩
  ·rw [if_neg e]at hx; exact .inr ⟨fun x=>e x.symm,hx⟩
 refine ⟨him,hone,fun k x hx=>?_,fun k k' x x' b h1 h2 h3 h4=>?_,fun k hk=>hfr k (by simpa using hk),hfv,Nat.le_trans hi.hB hsize,fun b o u hlt hu=>hi.low b o u hlt ?_,fun g r hg=>(hi.gl g r hg).mono (pure_le hle.im),hi.tb.mono (fun k hk hk2=>(hot k (fun e=>by have:=blockOf_ge (hi.ok l blk hl) e; omega) hk2).1),fun l x hx=>by simpa using hi.rcl l x hx,hi.cle.trans hle⟩
 ·rcases get k x hx with ⟨rfl,rfl⟩ | ⟨hne,hx'⟩
  ·exact hok
  ·refine (hi.ok k x hx').stay hle fun b hb=>hot b (fun e=>hne (hi.inj k l x blk b hx' hl hb e)) (blockOf_lt (hi.ok k x hx') hb)
 ·rcases get k x h1 with ⟨rfl,rfl⟩ | ⟨n1,x1⟩ <;> rcases get k' x' h2 with ⟨rfl,rfl⟩ | ⟨n2,x2⟩
  ·rfl
  ·rw [blockOf_ext (hi.ok k' x' x2) hle]at h4
   rcases hblk' b h3 with e | e
   ·exact hi.inj k k' blk x' b hl x2 e h4
   ·have:=blockOf_lt (hi.ok k' x' x2) h4; omega
  ·rw [blockOf_ext (hi.ok k x x1) hle]at h3
   rcases hblk' b h4 with e | e
   ·exact hi.inj k k' x blk b x1 hl h3 e
   ·have:=blockOf_lt (hi.ok k x x1) h3; omega
  ·rw [blockOf_ext (hi.ok k x x1) hle]at h3
   rw [blockOf_ext (hi.ok k' x' x2) hle]at h4;exact hi.inj k k' x x' b x1 x2 h3 h4
 ·rw [← (hot b (fun e=>by have:=blockOf_ge (hi.ok l blk hl) e; omega) (Nat.lt_of_lt_of_le hlt hi.hB)).2 o]; exact hu
def Cx.withRow(C:Cx)(b n:Nat)(cur:Array Value):Cx:={ C with im:=fun k o=>if k=b∧o<n then cur[o]? else C.im k o }
theorem freeze1_inv(hi:Inv B C h w)(l:Nat) :
  ∃ D,C.Le D∧Inv B D (freeze1 h l) w∧D.bl=C.bl∧D.ar=C.ar∧
   (∀ tg sz ver rows wr r cur,h[l]?=some (.arrT tg sz ver rows wr)→C.ar l ver=some (some r)→w.heap[r.block]?=some (.cells cur r.elem r.fz)→∀ j,j<rows.length*r.size→D.im r.block j=cur[j]?):=by
 cases hl:h[l]? with
 | none=>exact ⟨C,.refl C,by simpa [freeze1,hl] using hi,rfl,rfl,fun tg sz ver rows wr r cur e=>by cases e⟩
 | some blk=>
  cases blk with
  | arrX ne tg sz ver rows wr=>
   cases ne with
   | true=>exact ⟨C,.refl C,by simpa [freeze1,hl] using hi,rfl,rfl,fun tg sz ver rows wr r cur e=>by cases e⟩
   | false=>
   rcases hi.ok l _ hl with ⟨h1,h2⟩ | ⟨r,cur,h1,h2,h3,h4,h5,h6,h7,h8,h8',h9,h10,h11⟩
   ·refine ⟨C,.refl C,?_,rfl,rfl,fun tg' sz' ver' rows' wr' r' cur' e e2=>?_⟩
    ·simp only [freeze1,hl]
     refine hi.turn hl (.refl C) (Nat.le_refl _) (fun _ _ _=>⟨rfl,fun _=>rfl⟩) hi.im hi.one (.inl ⟨h1,h2⟩) (fun b hb=>.inl hb) hi.fr (fun k ne' tg' sz' ver' rows' wr' hk v hv=>?_)
     rw [List.getElem?_set]at hk;by_cases e:l=k
     ·subst e
      rw [if_pos rfl,if_pos (List.getElem?_eq_some_iff.1 hl).1]at hk;injection hk with hk; injection hk with hk000 hk00 hk0 hk; subst hk
      exact hi.fv l _ tg sz ver rows wr hl v hv
     ·rw [if_neg e]at hk; exact hi.fv k ne' tg' sz' ver' rows' wr' hk v hv
    ·injection e with e; injection e with e000 e00 e0 e; subst e; rw [h1]at e2; cases e2
   ·have hlen:rows.length*r.size≤cur.size:=by rw [h7]; exact Nat.mul_le_mul_right _ h3
    have hold:∀ o u,C.im r.block o=some u→cur[o]?=some u:=fun o u hu=>by
     have:=hi.im _ _ _ hu; rwa [cell_of_heap h6]at this
    have hle:C.Le (C.withRow r.block (rows.length*r.size) cur):=⟨fun b o u hu=>by
     simp only [Cx.withRow]; split
     ·rename_i e; obtain ⟨rfl,_⟩:=e; exact hold o u hu
     ·exact hu,fun _ _ x=>x,fun _ _ _ x=>x⟩
    refine ⟨C.withRow r.block (rows.length*r.size) cur,hle,?_,rfl,rfl,fun tg' sz' ver' rows' wr' r' cur' e e2 e3 j hj=>?_⟩
    ·simp only [freeze1,hl]
     have hbl:blockOf C l (.arrT tg sz ver rows wr)=some r.block:=by simp [blockOf,h1]
     refine hi.turn hl hle (Nat.le_refl _) (fun b hb _=>⟨rfl,fun o=>?_⟩) (fun b o u hu=>?_) (fun b o u hu=>?_) ?_ (fun b hb=>.inl hb) hi.fr (fun k ne' tg' sz' ver' rows' wr' hk v hv=>?_)
     ·simp only [Cx.withRow]; rw [if_neg (fun e=>hb (by rw [hbl,e.1]))]
     ·simp only [Cx.withRow]at hu
      split at hu
      ·rename_i e; obtain ⟨rfl,_⟩:=e; rw [cell_of_heap h6]; exact hu
      ·exact hi.im _ _ _ hu
     ·simp only [Cx.withRow]at hu
      split at hu
      ·rename_i e
       refine h8' u (List.mem_of_getElem? (i:=o) ?_)
       rw [List.getElem?_take,if_pos e.2]; simpa using hu
      ·exact hi.one _ _ _ hu
     ·refine .inr ⟨r,cur,h1,h2,h3,h4,h5,h6,h7,h8.mono (pure_le hle.im),h8',(fun e=>by cases e),fun _ j u hj hu=>?_,h11⟩
      simp only [Cx.withRow,true_and]; rw [if_pos hj]; exact hu
     ·rw [List.getElem?_set]at hk
      by_cases e:l=k
      ·subst e
       rw [if_pos rfl,if_pos (List.getElem?_eq_some_iff.1 hl).1]at hk;injection hk with hk; injection hk with hk000 hk00 hk0 hk; subst hk
       exact hi.fv l _ tg sz ver rows wr hl v hv
      ·rw [if_neg e]at hk; exact hi.fv k ne' tg' sz' ver' rows' wr' hk v hv
    ·injection e with e; injection e with e000 e00 e0 e e' e''; subst e e' e''
     rw [h1]at e2; injection e2 with e2; injection e2 with e2; subst e2
     rw [h6]at e3; injection e3 with e3; injection e3 with e3; subst e3
     simp only [Cx.withRow,true_and]; rw [if_pos hj]
  | cellsT tg vs=>exact ⟨C,.refl C,by simpa [freeze1,hl] using hi,rfl,rfl,fun tg sz ver rows wr r cur e=>by cases e⟩
  | map es=>exact ⟨C,.refl C,by simpa [freeze1,hl] using hi,rfl,rfl,fun tg sz ver rows wr r cur e=>by cases e⟩
  | iter s pos=>exact ⟨C,.refl C,by simpa [freeze1,hl] using hi,rfl,rfl,fun tg sz ver rows wr r cur e=>by cases e⟩
  | lp busy x=>exact ⟨C,.refl C,by simpa [freeze1,hl] using hi,rfl,rfl,fun tg sz ver rows wr r cur e=>by cases e⟩
  | mit m n seen last=>exact ⟨C,.refl C,by simpa [freeze1,hl] using hi,rfl,rfl,fun tg sz ver rows wr r cur e=>by cases e⟩
  | dead=>exact ⟨C,.refl C,by simpa [freeze1,hl] using hi,rfl,rfl,fun tg sz ver rows wr r cur e=>by cases e⟩
theorem freeze1_get{tg:Option TypeId}{l k:Nat}{sz ver:Nat}{rows:List (List AV)}{wr:Bool}(h:Heap)(hk:h[k]?=some (.arrT tg sz ver rows wr)):∃ wr',(freeze1 h l)[k]?=some (.arrT tg sz ver rows wr'):=by
 unfold freeze1
 split
 ·rename_i tg' sz' ver' rows' wr' hl
  rw [List.getElem?_set];by_cases e:l=k
  ·subst e
   rw [hk]at hl; injection hl with hl; injection hl with e000 e00 e0 e1 e2 e3; subst e00 e0 e1 e2 e3
   exact ⟨false,by rw [if_pos rfl,if_pos (List.getElem?_eq_some_iff.1 hk).1]⟩
  ·exact ⟨wr,by rw [if_neg e]; exact hk⟩
 ·exact ⟨wr,hk⟩
def SeesAll(C D:Cx)(h:Heap)(w:World)(ls:List Nat):Prop:=
 ∀ l∈ls,∀ tg sz ver rows wr r cur,h[l]?=some (.arrT tg sz ver rows wr)→C.ar l ver=some (some r)→w.heap[r.block]?=some (.cells cur r.elem r.fz)→∀ j u,j<rows.length*r.size→cur[j]?=some u→D.im r.block j=some u
theorem freezeAll_inv:∀ (ls:List Nat) {C:Cx} {h:Heap},Inv B C h w→∃ D,C.Le D∧Inv B D (freezeAll h ls) w∧D.bl=C.bl∧D.ar=C.ar∧SeesAll C D h w ls
 | [],C,h,hi=>⟨C,.refl C,hi,rfl,rfl,fun l hl=>by cases hl⟩
 | l::ls,C,h,hi=>by
  obtain ⟨D,h1,h2,h3,h4,h5⟩:=freeze1_inv hi l;obtain ⟨E,k1,k2,k3,k4,k5⟩:=freezeAll_inv ls h2;refine ⟨E,h1.trans k1,k2,k3.trans h3,k4.trans h4,fun k hk tg sz ver rows wr r cur e1 e2 e3 j u hj hu=>?_⟩
  rcases List.mem_cons.1 hk with rfl | hk
  ·exact k1.im _ _ _ (by rw [h5 tg sz ver rows wr r cur e1 e2 e3 j hj]; exact hu)
  ·obtain ⟨wr',g⟩:=freeze1_get (l:=l) h e1
   exact k5 k hk tg sz ver rows wr' r cur g (by rw [h4]; exact e2) e3 j u hj hu
def SeesIm(C:Cx)(I:Nat→Nat→Option Value)(h:Heap)(w:World)(ls:List Nat):Prop:=
 ∀ l∈ls,∀ tg sz ver rows wr r cur,h[l]?=some (.arrT tg sz ver rows wr)→C.ar l ver=some (some r)→w.heap[r.block]?=some (.cells cur r.elem r.fz)→∀ j u,j<rows.length*r.size→cur[j]?=some u→I r.block j=some u
theorem rows_rel(hi:Inv B C h w){I:Nat→Nat→Option Value}(hI:∀ b o u,C.im b o=some u→I b o=some u){l ver n:Nat}{rows:List (List AV)}{x:Value}(hs:SeesIm C I h w [l])
  (hr:rowsOf h (.own l ver n)=some rows) (hx:Rel C (.own l ver n) x):Rel (Cx.pure I) (.sl rows) x:=by
 simp only [rowsOf]at hr
 split at hr
 ·rename_i sz ver' rows' wr hl
  split at hr
  ·rename_i hc
   obtain ⟨rfl,hn⟩:=hc;injection hr with hr; subst hr
   cases hx with
   | ownnil _ _ h1=>simp; exact .slnil
   | own _ _ _ r h1 hcap=>
    rcases hi.ok l _ hl with ⟨k1,_⟩ | ⟨r',cur,k1,k2,k3,k4,k5,k6,k7,k8,_⟩
    ·rw [h1]at k1; cases k1
    ·rw [h1]at k1; injection k1 with k1; injection k1 with k1; subst k1
     have hlen:(rows'.take n).length=n:=by simp; omega
     have key:Rel (Cx.pure I) (.sl (rows'.take n)) (.slice (some ⟨r.block,0,none⟩) (rows'.take n).length r.cap):=by
      refine .sl _ r.block 0 r.cap r.size (fun i j=>(cur.toList[i*r.size+j]?).getD undef) (by omega) ?_ ?_ ?_
      ·intro i row hrow
       exact k5 row (List.mem_of_mem_take (List.mem_of_getElem? hrow))
      ·intro i row j c hrow hc
       have hi':i<rows'.length:=by
        have:=(List.getElem?_eq_some_iff.1 hrow).1; simp at this; omega
       rw [List.getElem?_take]at hrow;split at hrow
       ·have hrl:=k5 row (List.mem_of_getElem? hrow)
        have hj:j<r.size:=by rw [← hrl]; exact (List.getElem?_eq_some_iff.1 hc).1
        have hm:(i+1)*r.size≤rows'.length*r.size:=Nat.mul_le_mul_right _ hi';rw [Nat.add_mul]at hm;have hm2:rows'.length*r.size≤cur.size:=by rw [k7]; exact Nat.mul_le_mul_right _ k3
        have hlt:i*r.size+j<cur.size:=by omega
        have hu:cur[i*r.size+j]?=some cur[i*r.size+j]:=by simp [hlt]
        rw [Nat.zero_add];refine (hs l (by simp) _ _ _ _ _ _ _ hl h1 k6 (i*r.size+j) _ (by omega) hu).trans ?_
        simp [hlt]
       ·cases hrow
      ·intro i row j c hrow hc
       have hi':i<rows'.length:=by
        have:=(List.getElem?_eq_some_iff.1 hrow).1; simp at this; omega
       rw [List.getElem?_take]at hrow;split at hrow
       ·have hrl:=k5 row (List.mem_of_getElem? hrow)
        have hj:j<r.size:=by rw [← hrl]; exact (List.getElem?_eq_some_iff.1 hc).1
        have hm:(i+1)*r.size≤rows'.length*r.size:=Nat.mul_le_mul_right _ hi';rw [Nat.add_mul]at hm;have hm2:rows'.length*r.size≤cur.size:=by rw [k7]; exact Nat.mul_le_mul_right _ k3
        have hlt:i*r.size+j<cur.size:=by omega
        have:=k8.2 (i*r.size+j) c cur[i*r.size+j] (flatten_get rows' k5 i j row c hrow hc) (by rw [List.getElem?_take,if_pos (by omega)]; simp [hlt]);simp only [Array.getElem?_toList];rw [show cur[i*r.size+j]?=some cur[i*r.size+j]by simp [hlt]];exact this.mono (pure_le (D:=Cx.pure I) hI)
       ·cases hrow
     rw [hlen]at key; exact key
  ·cases hr
 ·cases hr
theorem win_rel(hi:Inv B C h w){I:Nat→Nat→Option Value}(hI:∀ b o u,C.im b o=some u→I b o=some u){l ver lo n:Nat}{rows:List (List AV)}{x:Value}(hs:SeesIm C I h w [l])
  (hr:winOf h l ver lo n=some rows) (hx:Rel C (.win l ver lo n) x):Rel (Cx.pure I) (.sl rows) x:=by
 unfold winOf at hr
 split at hr
 ·rename_i sz ver' rows' wr hl
  split at hr
  ·rename_i hc
   obtain ⟨rfl,hn⟩:=hc;injection hr with hr; subst hr
   cases hx with
   | win _ _ _ _ r h1 hcap=>
    rcases hi.ok l _ hl with ⟨k1,_⟩ | ⟨r',cur,k1,k2,k3,k4,k5,k6,k7,k8,_⟩
    ·rw [h1]at k1; cases k1
    ·rw [h1]at k1; injection k1 with k1; injection k1 with k1; subst k1
     have hlen:((rows'.drop lo).take n).length=n:=by simp; omega
     have hget:∀ i row,((rows'.drop lo).take n)[i]?=some row→i<n∧rows'[lo+i]?=some row:=fun i row hrow=>by
      rw [List.getElem?_take]at hrow;split at hrow
      ·rename_i hin
       rw [List.getElem?_drop]at hrow;exact ⟨hin,hrow⟩
      ·cases hrow
     have key:Rel (Cx.pure I) (.sl ((rows'.drop lo).take n)) (.slice (some ⟨r.block,lo*r.size,none⟩) ((rows'.drop lo).take n).length (r.cap-lo)):=by
      refine .sl _ r.block (lo*r.size) (r.cap-lo) r.size (fun i j=>(cur.toList[(lo+i)*r.size+j]?).getD undef) (by omega) ?_ ?_ ?_
      ·intro i row hrow
       exact k5 row (List.mem_of_getElem? (hget i row hrow).2)
      ·intro i row j c hrow hc
       obtain ⟨_,hrow⟩:=hget i row hrow;have hi':lo+i<rows'.length:=(List.getElem?_eq_some_iff.1 hrow).1;have hrl:=k5 row (List.mem_of_getElem? hrow);have hj:j<r.size:=by rw [← hrl]; exact (List.getElem?_eq_some_iff.1 hc).1
       have hm:(lo+i+1)*r.size≤rows'.length*r.size:=Nat.mul_le_mul_right _ hi';rw [Nat.add_mul]at hm;have hm2:rows'.length*r.size≤cur.size:=by rw [k7]; exact Nat.mul_le_mul_right _ k3
       have hlt:(lo+i)*r.size+j<cur.size:=by omega
       have hu:cur[(lo+i)*r.size+j]?=some cur[(lo+i)*r.size+j]:=by simp [hlt]
       have e:lo*r.size+i*r.size+j=(lo+i)*r.size+j:=by rw [Nat.add_mul]
       rw [e];refine (hs l (by simp) _ _ _ _ _ _ _ hl h1 k6 ((lo+i)*r.size+j) _ (by omega) hu).trans ?_
       simp [hlt]
      ·intro i row j c hrow hc
       obtain ⟨_,hrow⟩:=hget i row hrow;have hi':lo+i<rows'.length:=(List.getElem?_eq_some_iff.1 hrow).1;have hrl:=k5 row (List.mem_of_getElem? hrow);have hj:j<r.size:=by rw [← hrl]; exact (List.getElem?_eq_some_iff.1 hc).1
       have hm:(lo+i+1)*r.size≤rows'.length*r.size:=Nat.mul_le_mul_right _ hi';rw [Nat.add_mul]at hm;have hm2:rows'.length*r.size≤cur.size:=by rw [k7]; exact Nat.mul_le_mul_right _ k3
       have hlt:(lo+i)*r.size+j<cur.size:=by omega
       have:=k8.2 ((lo+i)*r.size+j) c cur[(lo+i)*r.size+j] (flatten_get rows' k5 (lo+i) j row c hrow hc) (by rw [List.getElem?_take,if_pos (by omega)]; simp [hlt]);simp only [Array.getElem?_toList];rw [show cur[(lo+i)*r.size+j]?=some cur[(lo+i)*r.size+j]by simp [hlt]];exact this.mono (pure_le (D:=Cx.pure I) hI)
     rw [hlen]at key; exact key
  ·cases hr
 ·cases hr
mutual
theorem view_rel(hi:Inv B C h w){I:Nat→Nat→Option Value}(hI:∀ b o u,C.im b o=some u→I b o=some u):∀ (v v':AV) (x:Value),SeesIm C I h w (owns v)→view h v=some v'→Rel C v x→Rel (Cx.pure I) v' x
 | .bool b,v',x,_,hv,hx=>by simp only [view]at hv; injection hv with hv; subst hv; rw [bool_inv hx]; exact .bool _
 | .int k n,v',x,_,hv,hx=>by simp only [view]at hv; injection hv with hv; subst hv; rw [int_inv hx]; exact .int _ _
 | .str s,v',x,_,hv,hx=>by simp only [view]at hv; injection hv with hv; subst hv; rw [str_inv hx]; exact .str _
 | .agg cs,v',x,hs,hv,hx=>by
  simp only [view]at hv;cases hl:viewL h cs with
  | none=>simp [hl]at hv
  | some ds=>
   simp only [hl,Option.map_some,Option.some.injEq]at hv; subst hv;obtain ⟨us,rfl,q⟩:=agg_inv hx;have:=viewL_rel hi hI cs ds us.toList (by simpa [owns] using hs) hl q;exact .agg ds us (by simpa using this.1) (fun i c u hc hu=>this.2 i c u hc (by simpa using hu))
 | .sl rows,v',x,_,hv,hx=>by
  simp only [view]at hv; injection hv with hv; subst hv
  have hle:=pure_le (D:=Cx.pure I) hI;cases hx with
  | slnil=>exact .slnil
  | slz a cap=>exact .slz a cap
  | sl _ b o cap size us hcap h1 h2 h3=>exact .sl rows b o cap size us hcap h1 (fun i row j c x y=>hI _ _ _ (h2 i row j c x y)) (fun i row j c x y=>(h3 i row j c x y).mono hle)
 | .tsl rows,v',x,_,hv,hx=>by
  simp only [view]at hv; injection hv with hv; subst hv
  have hle:=pure_le (D:=Cx.pure I) hI;cases hx with
  | tslnil=>exact .slnil
  | tslz a=>exact .slz a 0
  | tsl _ b o size us h1 h2 h3=>exact .sl rows b o rows.length size us (Nat.le_refl _) h1 (fun i row j c x y=>hI _ _ _ (h2 i row j c x y)) (fun i row j c x y=>(h3 i row j c x y).mono hle)
 | .nils,v',x,_,hv,hx=>by simp only [view]at hv; injection hv with hv; subst hv; cases hx; exact .slnil
 | .own l ver n,v',x,hs,hv,hx=>by
  simp only [view]at hv;cases hr:rowsOf h (.own l ver n)with
  | none=>simp [hr]at hv
  | some rows=>
   simp only [hr,Option.map_some,Option.some.injEq]at hv; subst hv;exact rows_rel hi hI (by simpa [owns] using hs) hr hx
 | .win l ver lo n,v',x,hs,hv,hx=>by
  simp only [view]at hv;cases hr:winOf h l ver lo n with
  | none=>simp [hr]at hv
  | some rows=>
   simp only [hr,Option.map_some,Option.some.injEq]at hv; subst hv;exact win_rel hi hI (by simpa [owns] using hs) hr hx
 | .fptr row off,v',x,_,hv,hx=>by
  simp only [view]at hv; injection hv with hv; subst hv
  have hle:=pure_le (D:=Cx.pure I) hI;cases hx with
  | fptr _ _ b o us h1 h2=>exact .fptr row off b o us (fun j c x=>hI _ _ _ (h1 j c x)) (fun j c x=>(h2 j c x).mono hle)
 | .nilp,v',x,_,hv,hx=>by simp only [view]at hv; injection hv with hv; subst hv; cases hx; exact .nilp
 | .nilm,v',x,_,hv,hx=>by simp only [view]at hv; injection hv with hv; subst hv; cases hx; exact .nilm
 | .nilf,v',x,_,hv,hx=>by simp only [view]at hv; injection hv with hv; subst hv; cases hx; exact .nilf
 | .nili,v',x,_,hv,hx=>by simp only [view]at hv; injection hv with hv; subst hv; cases hx; exact .nili
 | .fn f caps,v',x,hs,hv,hx=>by
  simp only [view]at hv;cases hl:viewL h caps with
  | none=>simp [hl]at hv
  | some ds=>
   simp only [hl,Option.map_some,Option.some.injEq]at hv; subst hv;cases hx with
   | fn _ _ us hlen hh=>
    have:=viewL_rel hi hI caps ds us.toList (by simpa [owns] using hs) hl ⟨by simpa using hlen,fun i c v hc hv=>hh i c v hc (by simpa using hv)⟩;exact .fn f ds us (by simpa using this.1) (fun i c u hc hu=>this.2 i c u hc (by simpa using hu))
 | .iface t v,v',x,hs,hv,hx=>by
  simp only [view]at hv;cases hl:view h v with
  | none=>simp [hl]at hv
  | some d=>
   simp only [hl,Option.map_some,Option.some.injEq]at hv; subst hv;cases hx with
   | iface _ _ y hy=>exact .iface t d y (view_rel hi hI v d y (by simpa [owns] using hs) hl hy)
 | .tup vs,v',x,hs,hv,hx=>by
  simp only [view]at hv;cases hl:viewL h vs with
  | none=>simp [hl]at hv
  | some ds=>
   simp only [hl,Option.map_some,Option.some.injEq]at hv; subst hv;cases hx with
   | tup _ us hlen hh=>
    have:=viewL_rel hi hI vs ds us.toList (by simpa [owns] using hs) hl ⟨by simpa using hlen,fun i c v hc hv=>hh i c v hc (by simpa using hv)⟩;exact .tup ds us (by simpa using this.1) (fun i c u hc hu=>this.2 i c u hc (by simpa using hu))
 | .ptr _ _,v',x,_,hv,_=>by simp [view]at hv
 | .eptr _ _ _ _,v',x,_,hv,_=>by simp [view]at hv
 | .gptr _ _,v',x,_,hv,_=>by simp [view]at hv
 | .map _,v',x,_,hv,_=>by simp [view]at hv
 | .yld _,v',x,_,hv,_=>by simp [view]at hv
 | .junk,v',x,_,hv,_=>by simp [view]at hv
theorem viewL_rel(hi:Inv B C h w){I:Nat→Nat→Option Value}(hI:∀ b o u,C.im b o=some u→I b o=some u):∀ (vs vs':List AV) (xs:List Value),SeesIm C I h w (ownsL vs)→viewL h vs=some vs'→RelL C vs xs→RelL (Cx.pure I) vs' xs
 | [],vs',xs,_,hv,hx=>by simp only [viewL]at hv; injection hv with hv; subst hv; have:=hx.inv_nil; subst this; exact .nil
 | v::vs,vs',xs,hs,hv,hx=>by
  simp only [viewL]at hv;split at hv
  ·rename_i d ds h1 h2
   injection hv with hv; subst hv
   obtain ⟨y,ys,rfl,r1,r2⟩:=hx.inv_cons;simp only [ownsL]at hs;exact .cons (view_rel hi hI v d y (fun l hl=>hs l (List.mem_append.2 (.inl hl))) h1 r1) (viewL_rel hi hI vs ds ys (fun l hl=>hs l (List.mem_append.2 (.inr hl))) h2 r2)
  ·cases hv
end
mutual
theorem viewK_rel(hi:Inv B C h w){I:Nat→Nat→Option Value}(hI:∀ b o u,C.im b o=some u→I b o=some u):∀ (v v':AV) (x:Value),SeesIm C I h w (owns v)→viewK h v=some v'→Rel C v x→Rel (Cx.pure I) v' x
 | .bool b,v',x,_,hv,hx=>by simp only [viewK]at hv; injection hv with hv; subst hv; rw [bool_inv hx]; exact .bool _
 | .int k n,v',x,_,hv,hx=>by simp only [viewK]at hv; injection hv with hv; subst hv; rw [int_inv hx]; exact .int _ _
 | .str s,v',x,_,hv,hx=>by simp only [viewK]at hv; injection hv with hv; subst hv; rw [str_inv hx]; exact .str _
 | .agg cs,v',x,hs,hv,hx=>by
  simp only [viewK]at hv;cases hl:viewKL h cs with
  | none=>simp [hl]at hv
  | some ds=>
   simp only [hl,Option.map_some,Option.some.injEq]at hv; subst hv;obtain ⟨us,rfl,q⟩:=agg_inv hx;have:=viewKL_rel hi hI cs ds us.toList (by simpa [owns] using hs) hl q;exact .agg ds us (by simpa using this.1) (fun i c u hc hu=>this.2 i c u hc (by simpa using hu))
 | .sl rows,v',x,_,hv,hx=>by
  simp only [viewK]at hv; injection hv with hv; subst hv
  have hle:=pure_le (D:=Cx.pure I) hI;cases hx with
  | slnil=>exact .slnil
  | slz a cap=>exact .slz a cap
  | sl _ b o cap size us hcap h1 h2 h3=>exact .sl rows b o cap size us hcap h1 (fun i row j c x y=>hI _ _ _ (h2 i row j c x y)) (fun i row j c x y=>(h3 i row j c x y).mono hle)
 | .tsl rows,v',x,_,hv,hx=>by
  simp only [viewK]at hv; injection hv with hv; subst hv
  have hle:=pure_le (D:=Cx.pure I) hI;cases hx with
  | tslnil=>exact .tslnil
  | tslz a=>exact .tslz a
  | tsl _ b o size us h1 h2 h3=>exact .tsl rows b o size us h1 (fun i row j c x y=>hI _ _ _ (h2 i row j c x y)) (fun i row j c x y=>(h3 i row j c x y).mono hle)
 | .nils,v',x,_,hv,hx=>by simp only [viewK]at hv; injection hv with hv; subst hv; cases hx; exact .nils
 | .own l ver n,v',x,hs,hv,hx=>by
  simp only [viewK]at hv;cases hr:rowsOf h (.own l ver n)with
  | none=>simp [hr]at hv
  | some rows=>
   simp only [hr,Option.map_some,Option.some.injEq]at hv; subst hv;exact rows_rel hi hI (by simpa [owns] using hs) hr hx
 | .fptr row off,v',x,_,hv,hx=>by
  simp only [viewK]at hv; injection hv with hv; subst hv
  have hle:=pure_le (D:=Cx.pure I) hI;cases hx with
  | fptr _ _ b o us h1 h2=>exact .fptr row off b o us (fun j c x=>hI _ _ _ (h1 j c x)) (fun j c x=>(h2 j c x).mono hle)
 | .nilp,v',x,_,hv,hx=>by simp only [viewK]at hv; injection hv with hv; subst hv; cases hx; exact .nilp
 | .nilm,v',x,_,hv,hx=>by simp only [viewK]at hv; injection hv with hv; subst hv; cases hx; exact .nilm
 | .nilf,v',x,_,hv,hx=>by simp only [viewK]at hv; injection hv with hv; subst hv; cases hx; exact .nilf
 | .nili,v',x,_,hv,hx=>by simp only [viewK]at hv; injection hv with hv; subst hv; cases hx; exact .nili
 | .fn f caps,v',x,hs,hv,hx=>by
  simp only [viewK]at hv;cases hl:viewKL h caps with
  | none=>simp [hl]at hv
  | some ds=>
   simp only [hl,Option.map_some,Option.some.injEq]at hv; subst hv;cases hx with
   | fn _ _ us hlen hh=>
    have:=viewKL_rel hi hI caps ds us.toList (by simpa [owns] using hs) hl ⟨by simpa using hlen,fun i c v hc hv=>hh i c v hc (by simpa using hv)⟩;exact .fn f ds us (by simpa using this.1) (fun i c u hc hu=>this.2 i c u hc (by simpa using hu))
 | .iface t v,v',x,hs,hv,hx=>by
  simp only [viewK]at hv;cases hl:viewK h v with
  | none=>simp [hl]at hv
  | some d=>
   simp only [hl,Option.map_some,Option.some.injEq]at hv; subst hv;cases hx with
   | iface _ _ y hy=>exact .iface t d y (viewK_rel hi hI v d y (by simpa [owns] using hs) hl hy)
 | .tup vs,v',x,hs,hv,hx=>by
  simp only [viewK]at hv;cases hl:viewKL h vs with
  | none=>simp [hl]at hv
  | some ds=>
   simp only [hl,Option.map_some,Option.some.injEq]at hv; subst hv;cases hx with
   | tup _ us hlen hh=>
    have:=viewKL_rel hi hI vs ds us.toList (by simpa [owns] using hs) hl ⟨by simpa using hlen,fun i c v hc hv=>hh i c v hc (by simpa using hv)⟩;exact .tup ds us (by simpa using this.1) (fun i c u hc hu=>this.2 i c u hc (by simpa using hu))
 | .ptr _ _,v',x,_,hv,_=>by simp [viewK]at hv
 | .win _ _ _ _,v',x,_,hv,_=>by simp [viewK]at hv
 | .eptr _ _ _ _,v',x,_,hv,_=>by simp [viewK]at hv
 | .gptr _ _,v',x,_,hv,_=>by simp [viewK]at hv
 | .map _,v',x,_,hv,_=>by simp [viewK]at hv
 | .yld _,v',x,_,hv,_=>by simp [viewK]at hv
 | .junk,v',x,_,hv,_=>by simp [viewK]at hv
theorem viewKL_rel(hi:Inv B C h w){I:Nat→Nat→Option Value}(hI:∀ b o u,C.im b o=some u→I b o=some u):∀ (vs vs':List AV) (xs:List Value),SeesIm C I h w (ownsL vs)→viewKL h vs=some vs'→RelL C vs xs→RelL (Cx.pure I) vs' xs
 | [],vs',xs,_,hv,hx=>by simp only [viewKL]at hv; injection hv with hv; subst hv; have:=hx.inv_nil; subst this; exact .nil
 | v::vs,vs',xs,hs,hv,hx=>by
  simp only [viewKL]at hv;split at hv
  ·rename_i d ds h1 h2
   injection hv with hv; subst hv
   obtain ⟨y,ys,rfl,r1,r2⟩:=hx.inv_cons;simp only [ownsL]at hs;exact .cons (viewK_rel hi hI v d y (fun l hl=>hs l (List.mem_append.2 (.inl hl))) h1 r1) (viewKL_rel hi hI vs ds ys (fun l hl=>hs l (List.mem_append.2 (.inr hl))) h2 r2)
  ·cases hv
end
end
end Go.Proofs.YtpefhfiehfkocaaGreatDoor
namespace Go.Proofs.YtpefhfiehfkocaaGreatDoor
open Go.RowKit
def keyKind(P:Program)(kt:TypeId):Option EK:=match P.underlying kt with
 | some .string=>some .s
 | some (.int _)=>some .i
 | some .bool=>some .b
 | _=>none
def tbytes(P:Program)(t:TypeId):Option Nat:=(P.info? t).map (·.bytes)
def compEff(P:Program)(own:Bool)(ty:TypeId):Op→Option (AO×List Operand)
 | .alloc e=>match tzero P e with
  | some z=>some (.alloc z,[])
  | none=>none
 | .box _ x=>some (.box,[x])
 | .store t a v=>match tsize P t with
  | some n=>some (.st n,[a,v])
  | none=>none
 | .assign (.const (.slice none 0 0))=>match P.underlying ty with
  | some (.slice e)=>(match tsize P e with
   | some n=>some (.newnil n,[])
   | none=>none)
  | _=>none
 | .makeMap _ none=>some (.mkmap,[])
 | .mapUpdate t m k v=>match P.underlying t with
  | some (.map kt _)=>(match keyKind P kt with
   | some e=>some (.mapup e,[m,k,v])
   | none=>none)
  | _=>none
 | .insert t m k v=>match P.underlying t with
  | some (.map kt _)=>(match keyKind P kt with
   | some e=>some (.mapup e,[m,k,v])
   | none=>none)
  | _=>none
 | .makeSlice t l c=>match P.underlying t with
  | some (.slice e)=>(match tzero P e,tbytes P e,tsize P e with
   | some z,some b,some n=>if z.length=n∧0<n then some (.mksl z b,[l,c])else none
   | _,_,_=>none)
  | _=>none
 | .buildSlice t len parts=>match P.underlying t with
  | some (.slice e)=>(match tsize P e,tzero P e with
   | some n,some _=>if parts.toList.map (·.1)=List.range len then some (.bsl own n,parts.toList.map (·.2))else none
   | _,_=>none)
  | _=>none
 | .call { callee:=.builtin .append,args,argTypes }=>match args.toList,argTypes.toList with
  | [s,x],[t,tx]=>(match P.underlying t with
   | some (.slice e)=>(match tsize P e,tbytes P e,tzero P e,P.underlying tx with
    | some n,some b,some z,some (.slice _)=>if 0<n∧z.length=n then some (.app false n b,[s,x])else none
    | some n,some b,some z,some .string=>if n=1∧z.length=n then some (.app true n b,[s,x])else none
    | _,_,_,_=>none)
   | _=>none)
  | _,_=>none
 | .range t x=>match P.underlying t with
  | some .string=>some (.rng,[x])
  | some (.map _ _)=>some (.rngm,[x])
  | _=>none
 | .next it true=>some (.nxt,[it])
 | _=>none
section
variable {P:Program} {B:Base} {C D:Cx} {h:Heap} {w w':World} {G:Gam}
theorem frz_sound(hi:Inv B C h w){v u:AV}{x:Value}{h1:Heap}(hf:frz h v=some (u,h1))(hx:Rel C v x):∃ D,C.Le D∧Inv B D h1 w∧Rel (Cx.pure D.im) u x∧D.bl=C.bl∧D.ar=C.ar:=by
 unfold frz at hf
 cases hv:view h v with
 | none=>simp [hv]at hf
 | some v'=>
  simp only [hv,Option.map_some,Option.some.injEq,Prod.mk.injEq]at hf;obtain ⟨rfl,rfl⟩:=hf;obtain ⟨D,k1,k2,k3,k4,k5⟩:=freezeAll_inv (owns v) hi;exact ⟨D,k1,k2,view_rel hi k1.im v v' x k5 hv hx,k3,k4⟩
theorem frzK_sound(hi:Inv B C h w){v u:AV}{x:Value}{h1:Heap}(hf:frzK h v=some (u,h1))(hx:Rel C v x):∃ D,C.Le D∧Inv B D h1 w∧Rel (Cx.pure D.im) u x∧D.bl=C.bl∧D.ar=C.ar:=by
 unfold frzK at hf
 cases hv:viewK h v with
 | none=>simp [hv]at hf
 | some v'=>
  simp only [hv,Option.map_some,Option.some.injEq,Prod.mk.injEq]at hf;obtain ⟨rfl,rfl⟩:=hf;obtain ⟨D,k1,k2,k3,k4,k5⟩:=freezeAll_inv (owns v) hi;exact ⟨D,k1,k2,viewK_rel hi k1.im v v' x k5 hv hx,k3,k4⟩
theorem frzL_sound(hi:Inv B C h w){vs us:List AV}{xs:List Value}{h1:Heap}(hf:frzL h vs=some (us,h1))(hx:RelL C vs xs):∃ D,C.Le D∧Inv B D h1 w∧RelL (Cx.pure D.im) us xs∧D.bl=C.bl∧D.ar=C.ar:=by
 unfold frzL at hf
 cases hv:viewL h vs with
 | none=>simp [hv]at hf
 | some v'=>
  simp only [hv,Option.map_some,Option.some.injEq,Prod.mk.injEq]at hf;obtain ⟨rfl,rfl⟩:=hf;obtain ⟨D,k1,k2,k3,k4,k5⟩:=freezeAll_inv (ownsL vs) hi;exact ⟨D,k1,k2,viewL_rel hi k1.im vs v' xs k5 hv hx,k3,k4⟩
theorem frzKL_sound(hi:Inv B C h w){vs us:List AV}{xs:List Value}{h1:Heap}(hf:frzKL h vs=some (us,h1))(hx:RelL C vs xs):∃ D,C.Le D∧Inv B D h1 w∧RelL (Cx.pure D.im) us xs∧D.bl=C.bl∧D.ar=C.ar:=by
 unfold frzKL at hf
 cases hv:viewKL h vs with
 | none=>simp [hv]at hf
 | some v'=>
  simp only [hv,Option.map_some,Option.some.injEq,Prod.mk.injEq]at hf;obtain ⟨rfl,rfl⟩:=hf;obtain ⟨D,k1,k2,k3,k4,k5⟩:=freezeAll_inv (ownsL vs) hi;exact ⟨D,k1,k2,viewKL_rel hi k1.im vs v' xs k5 hv hx,k3,k4⟩
theorem oneC_rel{a:AV}{x:Value}(h:Rel C a x)(h1:oneC a=true):x.oneCell'=true:=by
 cases h <;> first | rfl | (simp [oneC]at h1)
theorem onesC_rel{as:List AV}{xs:List Value}(h:RelL C as xs)(h1:as.all oneC=true):∀ x∈xs,x.oneCell'=true:=by
 intro x hx
 obtain ⟨i,hi⟩:=List.mem_iff_getElem?.1 hx
 have hlt:i<as.length:=by rw [h.1]; exact (List.getElem?_eq_some_iff.1 hi).1
 have ha:as[i]?=some as[i]:=by simp [hlt]
 exact oneC_rel (h.2 i _ x ha hi) (List.all_eq_true.1 h1 _ (List.getElem_mem hlt))
theorem setAt_splice:∀ (cs base:List AV) (off:Nat),off+cs.length≤base.length→setAt base off cs=base.take off++cs++base.drop (off+cs.length)
 | [],base,off,_=>by simp [setAt]
 | c::cs,base,off,hl=>by
  simp only [List.length_cons]at hl;rw [setAt,setAt_splice cs (base.set off c) (off+1) (by simp; omega)];have hlt:off<base.length:=by omega
  rw [List.take_add_one,List.take_set_of_le (Nat.le_refl _),List.getElem?_set_self hlt];rw [show off+1+cs.length=off+(c::cs).length by rw [List.length_cons]; omega];rw [List.drop_set_of_lt (by rw [List.length_cons]; omega)];simp
theorem relL_splice{as:List AV}{us:List Value}{cs:List AV}{vs:List Value}(h:RelL C as us)(k:RelL C cs vs)(off:Nat) :
  RelL C (as.take off++cs++as.drop (off+cs.length)) (us.take off++vs++us.drop (off+vs.length)):=by
 rw [← k.1]; exact ((h.take off).append k).append (h.drop _)
theorem heap_setRow{b:Nat}{old cs:Array Value}{e:TypeId}{fz:Nat×Nat}(hg:w.heap[b]?=some (.cells old e fz)):(w.setRow b cs).heap[b]?=some (.cells cs e fz):=setRow_heap w b old cs e fz hg
theorem RowAt.thaw{r:RowAt}{cur:Array Value}{v:World}(hk:v.heap[r.block]?=some (.cells cur r.elem r.fz)){j:Nat}(hj:j<r.cap*r.size):v.frozen? ⟨r.block,j,none⟩=false:=by
 unfold World.frozen?
 rw [hk]
 unfold RowAt.fz
 cases r.cv <;> simp <;> omega
theorem cells_row{b:Nat}{t:TypeId}{fz:Nat×Nat}:∀ (vs:List Value) (o:Nat) (cur:Array Value) (v:World),v.heap[b]?=some (.cells cur t fz)→o+vs.length≤cur.size→
  v.setCells b o vs=v.setRow b (cur.toList.take o++vs++cur.toList.drop (o+vs.length)).toArray
 | [],o,cur,v,hg,_=>by
  simp only [World.setCells,List.append_nil,List.length_nil,Nat.add_zero,List.take_append_drop,Array.toArray_toList];rw [setRow_self v b cur t fz hg]
 | x::r,o,cur,v,hg,hl=>by
  have ih:=cells_row r (o+1) (cur.setIfInBounds o x) (v.setRow b (cur.setIfInBounds o x)) (setRow_heap v b cur _ t _ hg) (by simp at hl ⊢; omega);simp only [World.setCells];rw [setCell_eq_setRow v b o cur t fz x hg,ih,setRow_setRow];congr 2
  have e:=list_seg_step cur.toList o x r (by simp at hl ⊢; omega);simpa [Array.toList_setIfInBounds] using e
theorem row_store{r:RowAt}{cur:Array Value}(hk:w.heap[r.block]?=some (.cells cur r.elem r.fz))(hc:cur.size=r.cap*r.size)(o:Nat)(vs:List Value)(hl:o+vs.length≤cur.size)(h1:∀ v∈vs,v.oneCell'=true) :
  (storeCells ⟨r.block,o,none⟩ vs 0).run P w=.ok () (w.setRow r.block (cur.toList.take o++vs++cur.toList.drop (o+vs.length)).toArray):=by
 have:=run_storeCells_cells (P:=P) r.block o vs 0 w (fun j hj=>by simp [World.cell?,hk]; omega) (fun j hj=>RowAt.thaw hk (by simp; omega)) h1
 rw [this,Nat.add_zero,cells_row vs o cur w hk hl]
structure Keep (B:Nat) (w w':World):Prop where
 below:Below B w w'
 sys:∀ (k:Nat) c,w.heap[k]?=some (.deferred c)→w'.heap[k]?=some (.deferred c)
theorem Keep.refl(B:Nat)(w:World):Keep B w w:=⟨Below.refl _ _,fun _ _ h=>h⟩
theorem Keep.trans{n:Nat}{a b c:World}(h:Keep n a b)(k:Keep n b c):Keep n a c:=⟨h.below.trans k.below,fun i o x=>k.sys i o (h.sys i o x)⟩
theorem Keep.grown{n:Nat}{w w':World}(h:Below w.heap.size w w')(hn:n≤w.heap.size):Keep n w w':=⟨h.mono hn,fun k _c x=>(h.block k (heap_lt x)).trans x⟩
theorem Keep.setCell{n:Nat}{a w:World}(h:Keep n a w){p:Addr}(hp:n≤p.block)(u:Value):Keep n a (w.setCell p u):=
 ⟨h.below.setCell hp u,fun k c x=>by
  have x:=h.sys k c x;by_cases e:k=p.block
  ·subst e
   obtain ⟨hlt,hv⟩:=Array.getElem?_eq_some_iff.1 x;unfold World.setCell;rw [Array.getElem?_eq_getElem (by simpa using hlt),Array.getElem_modify_self,hv]
  ·exact (Below.heap_setCell w p u k e).trans x⟩
theorem below_setRow{b:Nat}(hb:B≤b)(cs:Array Value):Keep B w (w.setRow b cs):=⟨⟨rfl,rfl,rfl,by simp,fun k hk=>setRow_other w b k cs (by omega)⟩,fun k c hk=>by
 by_cases e:k=b
 ·subst e
  obtain ⟨hlt,hv⟩:=Array.getElem?_eq_some_iff.1 hk;unfold World.setRow;rw [Array.getElem?_eq_getElem (by simpa using hlt),Array.getElem_modify_self,hv]
 ·rw [setRow_other w b k cs e]; exact hk⟩
def Left(_P:Program)(B:Base)(C:Cx)(w:World)(r:Result Next)(v:AV)(h':Heap):Prop:=
 ∃ n u D w',r=.ok n w'∧(n=.value u∨(n=.skip∧u=undef))∧C.Le D∧Inv B D h' w'∧Rel D v u∧Keep B w w'
theorem below_of(hi:Inv B C h w)(hb:Below w.heap.size w w'):Keep B w w':=.grown hb hi.hB
theorem store_ptr(hi:Inv B C h w){t:TypeId}{size l off:Nat}(hs:tsize P t=some size){v:AV}{x y:Value}(hx:Rel C (.ptr l off) x)(hy:Rel C v y){vs:List AV}{tg:Option TypeId}(hl:h[l]?=some (.cellsT tg vs))
  (hlen:v.cells.length=size) (h0:0<size) (hone:v.cells.all oneC=true) (hroom:off+size≤vs.length) :
  ∃ w',(Instr.storeAt t x y).run P w=.ok () w'∧Inv B C (h.set l (.cellsT tg (setAt vs off v.cells))) w'∧Keep B w w':=by
 have hcells:=cells_rel hy (by intro e; rw [e]at hlen; simp at hlen; omega)
 cases hx with
 | ptr _ _ b hb=>
  obtain ⟨b',cur,e,h1,h2,h3,h4,h5,h6⟩:=hi.ok l _ hl;rw [hb]at h1; injection h1 with h1; subst h1
  have hl5:=h5.1;simp at hl5;have hvl:=hcells.1;simp at hvl;have hst:=run_storeCells_at P b off e y.cells.toList 0 cur w h3 (by simp; omega) (onesC_rel hcells hone);simp only [Nat.add_zero]at hst;refine ⟨w.setRow b (cur.toList.take off++y.cells.toList++cur.toList.drop (off+y.cells.toList.length)).toArray,?_,?_,below_setRow h2 _⟩
  ·simp only [Instr.storeAt,Instr.sureAddr,Sem.run_bind,Sem.run_pure,Result.andThen_ok,storeVar,run_sizeOf' hs]
   rw [if_neg (by simp; omega)];simpa using hst
  ·refine hi.turn hl (.refl C) (by simp) (fun b' hb' _=>⟨setRow_other w b b' _ (fun e=>hb' (by simp [blockOf,hb,e])),fun _=>rfl⟩) (fun b' o u hu=>?_) hi.one ?_ (fun b' hb'=>.inl hb') hi.fr (fun k ne tg sz ver rows wr hk v hv=>?_)
   ·have hne:b'≠b:=fun e=>by subst e; rw [h4 o]at hu; cases hu
    rw [cell_setRow_other w b _ ⟨b',o,none⟩ hne]; exact hi.im _ _ _ hu
   ·refine ⟨b,_,e,hb,h2,heap_setRow h3,h4,?_,h6⟩
    rw [setAt_splice _ _ _ (by omega)];simpa using relL_splice h5 hcells off
   ·rw [List.getElem?_set]at hk
    split at hk
    ·split at hk
     ·cases hk
     ·cases hk
    ·exact hi.fv k ne tg sz ver rows wr hk v hv
theorem arr_fv(hi:Inv B C h w){ne ne2:Bool}{tg tg2:Option TypeId}{l sz sz2 ver:Nat}{rows rows':List (List AV)}{wr wr':Bool}(hl:h[l]?=some (.arrX ne tg sz ver rows wr))(k:Nat)(ne':Bool)(tg':Option TypeId)(sz' ver':Nat)(rows'':List (List AV))(wr'':Bool)(hk:(h.set l (.arrX ne2 tg2 sz2 ver rows' wr'))[k]?=some (.arrX ne' tg' sz' ver' rows'' wr''))(v:Nat)(hv:ver'<v):C.ar k v=none:=by
 rw [List.getElem?_set]at hk
 by_cases e:l=k
 ·subst e
  rw [if_pos rfl,if_pos (List.getElem?_eq_some_iff.1 hl).1]at hk;injection hk with hk; injection hk with hk000 hk00 hk0 hk; subst hk
  exact hi.fv l _ tg sz ver rows wr hl v hv
 ·rw [if_neg e]at hk; exact hi.fv k ne' tg' sz' ver' rows'' wr'' hk v hv
theorem flatten_split(rows:List (List AV)){i:Nat}{row:List AV}(h:rows[i]?=some row):rows.flatten=(rows.take i).flatten++row++(rows.drop (i+1)).flatten:=by
 have hlt:i<rows.length:=(List.getElem?_eq_some_iff.1 h).1
 have hrow:rows[i]=row:=(List.getElem?_eq_some_iff.1 h).2
 conv=>lhs; rw [← List.take_append_drop i rows,List.drop_eq_getElem_cons hlt]
 simp [hrow]
theorem flatten_set(rows:List (List AV)){i:Nat}{row row':List AV}(h:rows[i]?=some row):(rows.set i row').flatten=(rows.take i).flatten++row'++(rows.drop (i+1)).flatten:=by
 have hlt:i<rows.length:=(List.getElem?_eq_some_iff.1 h).1
 have h':(rows.set i row')[i]?=some row':=by rw [List.getElem?_set_self hlt]
 rw [flatten_split _ h',List.take_set_of_le (Nat.le_refl _),List.drop_set_of_lt (by omega)]
theorem store_eptr(hi:Inv B C h w){ne:Bool}{t:TypeId}{size l sz ver i off:Nat}(hs:tsize P t=some size){u:AV}{x y:Value}(hx:Rel C (.eptr l ver i off) x)(hy:Rel (C.at ne) u y){rows:List (List AV)}{tg:Option TypeId}(hl:h[l]?=some (.arrX ne tg sz ver rows true))
  {row:List AV} (hrow:rows[i]?=some row) (hlen:u.cells.length=size) (h0:0<size) (hone:u.cells.all oneC=true) (hroom:off+size≤row.length) :
  ∃ w',(Instr.storeAt t x y).run P w=.ok () w'∧Inv B C (h.set l (.arrX ne tg sz ver (rows.set i (setAt row off u.cells)) true)) w'∧Keep B w w':=by
 have hcells:=cells_rel hy (by intro e; rw [e]at hlen; simp at hlen; omega)
 cases hx with
 | eptr _ _ _ _ r hb=>
  rcases hi.ok l _ hl with ⟨k1,_⟩ | ⟨r',cur,k1,k2,k3,k4,k5,k6,k7,k8,k8',k9,k10,k11⟩
  ·rw [hb]at k1; cases k1
  ·rw [hb]at k1; injection k1 with k1; injection k1 with k1; subst k1
   have hi':i<rows.length:=(List.getElem?_eq_some_iff.1 hrow).1;have hrl:=k5 row (List.mem_of_getElem? hrow);have hm:(i+1)*r.size≤rows.length*r.size:=Nat.mul_le_mul_right _ hi';have hm2:rows.length*r.size≤cur.size:=by rw [k7]; exact Nat.mul_le_mul_right _ k3
   rw [Nat.add_mul]at hm;have hvl:=hcells.1;simp at hvl;have hst:=row_store (P:=P) k6 k7 (i*r.size+off) y.cells.toList (by simp; omega) (onesC_rel hcells hone);have hpre:(rows.take i).flatten.length=i*r.size:=by
    rw [flatten_len (n:=r.size) _ (fun x hx=>k5 x (List.mem_of_mem_take hx)),List.length_take,Nat.min_eq_left (by omega)]
   have hfl:=flatten_len rows k5;have hnew:(rows.set i (setAt row off u.cells)).flatten=setAt rows.flatten (i*r.size+off) u.cells:=by
    have e1:((rows.take i).flatten++row++(rows.drop (i+1)).flatten).take (i*r.size+off)=(rows.take i).flatten++row.take off:=by
     rw [List.append_assoc,List.take_append,List.take_of_length_le (by omega),hpre,Nat.add_sub_cancel_left,List.take_append,show off-row.length=0 by omega];simp
    have e2:((rows.take i).flatten++row++(rows.drop (i+1)).flatten).drop (i*r.size+off+u.cells.length)=row.drop (off+u.cells.length)++(rows.drop (i+1)).flatten:=by
     rw [List.append_assoc,List.drop_append,List.drop_of_length_le (by omega),hpre,show i*r.size+off+u.cells.length-i*r.size=off+u.cells.length by omega,List.drop_append,show off+u.cells.length-row.length=0 by omega];simp
    rw [flatten_set rows hrow,setAt_splice _ _ _ (by omega),setAt_splice _ _ _ (by rw [hfl]; omega),flatten_split rows hrow,e1,e2];simp only [List.append_assoc]
   refine ⟨w.setRow r.block (cur.toList.take (i*r.size+off)++y.cells.toList++cur.toList.drop (i*r.size+off+y.cells.toList.length)).toArray,?_,?_,below_setRow k2 _⟩
   ·simp only [Instr.storeAt,Instr.sureAddr,Sem.run_bind,Sem.run_pure,Result.andThen_ok,storeVar,run_sizeOf' hs]
    rw [if_neg (by simp; omega)];simpa using hst
   ·have hlens:(setAt row off u.cells).length=r.size:=by rw [setAt_splice _ _ _ (by omega)]; simp; omega
    have htake:(cur.toList.take (i*r.size+off)++y.cells.toList++cur.toList.drop (i*r.size+off+y.cells.toList.length)).take (rows.length*r.size)=
      (cur.toList.take (rows.length*r.size)).take (i*r.size+off)++y.cells.toList++(cur.toList.take (rows.length*r.size)).drop (i*r.size+off+y.cells.toList.length):=by
     have hyl:y.cells.toList.length=size:=by simp; omega
     rw [List.take_take,Nat.min_eq_left (by omega),List.take_append,List.take_of_length_le (by simp; omega)];congr 1
     rw [List.drop_take];congr 1
     simp; omega
    refine hi.turn hl (.refl C) (by simp) (fun b' hb' _=>⟨setRow_other w r.block b' _ (fun e=>hb' (by simp [blockOf,hb,e])),fun _=>rfl⟩) (fun b' o u' hu=>?_) hi.one ?_ (fun b' hb'=>.inl hb') hi.fr (arr_fv hi hl)
    ·have hne:b'≠r.block:=fun e=>by subst e; rw [k9 rfl o]at hu; cases hu
     rw [cell_setRow_other w r.block _ ⟨b',o,none⟩ hne]; exact hi.im _ _ _ hu
    ·refine .inr ⟨r,_,hb,k2,by simpa using k3,k4,fun x hx=>?_,heap_setRow k6,?_,?_,fun x hx=>?_,k9,(fun e=>by cases e),k11.1,k11.2.len (by simp)⟩
     ·rcases List.mem_or_eq_of_mem_set hx with hx | rfl
      ·exact k5 x hx
      ·exact hlens
     ·simp; omega
     ·rw [hnew,setAt_splice _ _ _ (by rw [hfl]; omega),List.length_set]
      simp only;rw [htake];exact relL_splice k8 hcells (i*r.size+off)
     ·rw [List.length_set]at hx
      simp only at hx;rw [htake]at hx;simp only [List.mem_append]at hx;rcases hx with (hx | hx) | hx
      ·exact k8' x (List.mem_of_mem_take hx)
      ·exact onesC_rel hcells hone x hx
      ·exact k8' x (List.mem_of_mem_drop hx)
theorem keyKind_spec{kt:TypeId}{e:EK}(h:keyKind P kt=some e):∃ d,P.underlying kt=some d∧(match e with | .s=>d=.string | .i=>∃ q,d=.int q | .b=>d=.bool):=by
 unfold keyKind at h
 split at h <;> (first | cases h | skip)
 ·rename_i hk; exact ⟨_,hk,rfl⟩
 ·rename_i q hk; exact ⟨_,hk,q,rfl⟩
 ·rename_i hk; exact ⟨_,hk,rfl⟩
theorem sameBits_key{e:EK}{k k':AV}{x y:Value}{n:Nat}(hx:Rel C k x)(hy:Rel C k' y)(h:keyEq e k k'=some true):Instr.sameBits n y x=true:=by
 cases e <;> cases k <;> cases k' <;> simp only [keyEq]at h <;> (first | cases h | skip)
 ·rw [bool_inv hx,bool_inv hy]; injection h with h; simp at h; subst h; simp [Instr.sameBits]
 ·split at h
  ·rename_i hk; injection h with h; simp at h; subst h hk
   rw [int_inv hx,int_inv hy]; simp [Instr.sameBits]
  ·cases h
 ·rw [str_inv hx,str_inv hy]; injection h with h; simp at h; subst h; simp only [Instr.sameBits]; rw [beq_toListBytes]; simp
theorem mput_now{e:EK}{d:TypeDesc}(hd:match e with | .s=>d=.string | .i=>∃ q,d=.int q | .b=>d=.bool){k v:AV}{x y:Value}(hx:Rel C k x)(hy:Rel C v y) :
  ∀ (es:List (AV×AV)) (ms:List MapEntry) (n:Nat) (es':List (AV×AV)),es.length=ms.length→(∀ (i:Nat) k v m,es[i]?=some (k,v)→ms[i]?=some m→Rel C k m.key∧Rel C v m.val)→mput e k v es=some es'→
   (∃ i u key,Instr.findNow d x ms n=some (some (n+i,u))∧(ms[i]?).map (·.key)=some key∧(∀ n,Instr.sameBits n key x=true)∧i<ms.length∧
    es'.length=ms.length∧(∀ (j:Nat) k v m,es'[j]?=some (k,v)→(ms.modify i fun m=>{ m with key:=x,val:=y })[j]?=some m→Rel C k m.key∧Rel C v m.val)) ∨
   (Instr.findNow d x ms n=some none∧es'=es++[(k,v)])
 | [],[],n,es',_,_,h=>by simp [mput]at h; subst h; exact .inr ⟨rfl,rfl⟩
 | [],_::_,_,_,hl,_,_=>by simp at hl
 | _::_,[],_,_,hl,_,_=>by simp at hl
 | (k',v')::es,m::ms,n,es',hl,hr,h=>by
  obtain ⟨r1,r2⟩:=hr 0 k' v' m rfl rfl;have hrt:∀ (i:Nat) k v m,es[i]?=some (k,v)→ms[i]?=some m→Rel C k m.key∧Rel C v m.val:=fun i k v m h1 h2=>hr (i+1) k v m (by simpa using h1) (by simpa using h2)
  simp only [mput]at h;split at h
  ·rename_i hk
   injection h with h; subst h
   have:=keyEq_now hd hx r1 hk;refine .inl ⟨0,m.val,m.key,by simp [Instr.findNow,this],rfl,fun n=>sameBits_key hx r1 hk,by simp,by simpa using hl,fun j a b q h1 h2=>?_⟩
   cases j with
   | zero=>
    simp at h1 h2;obtain ⟨rfl,rfl⟩:=h1;subst h2;refine ⟨?_,hy⟩
    have:x=m.key:=by
     cases e <;> cases k <;> cases k' <;> simp only [keyEq]at hk <;> (first | cases hk | skip)
     ·rw [bool_inv hx,bool_inv r1]; injection hk with hk; simp at hk; rw [hk]
     ·split at hk
      ·rename_i e1; injection hk with hk; simp at hk; rw [int_inv hx,int_inv r1,hk,e1]
      ·cases hk
     ·rw [str_inv hx,str_inv r1]; injection hk with hk; simp at hk; rw [hk]
    rw [this]; exact r1
   | succ j=>simp at h1 h2; exact hrt j a b q h1 h2
  ·rename_i hk
   have hnow:=keyEq_now hd hx r1 hk;cases hp:mput e k v es with
   | none=>simp [hp]at h
   | some es2=>
    simp only [hp,Option.map_some,Option.some.injEq]at h; subst h;rcases mput_now hd hx hy es ms (n+1) es2 (by simpa using hl) hrt hp with ⟨i,u,key,a1,a2,a3,a4,a5,a6⟩ | ⟨a1,a2⟩
    ·refine .inl ⟨i+1,u,key,?_,by simpa using a2,a3,by simp; omega,by simp [a5],fun j a b q h1 h2=>?_⟩
     ·simp only [Instr.findNow,hnow]; rw [a1]; congr 3; omega
     ·cases j with
      | zero=>simp at h1 h2; obtain ⟨rfl,rfl⟩:=h1; subst h2; exact ⟨r1,r2⟩
      | succ j=>simp at h1 h2; exact a6 j a b q h1 h2
    ·exact .inr ⟨by simp only [Instr.findNow,hnow]; exact a1,by simp [a2]⟩
  ·cases h
end
end Go.Proofs.YtpefhfiehfkocaaGreatDoor
