/- New places,and places that turn -/
import Derived.Test.YtdebajodkallbaaGreatDoorAm2
import Derived.Deep.AppendSrc
namespace Go.Proofs.YtdebajodkallbaaGreatDoor
open Go.RowKit
section
variable{P:Program}{B:Base}{C D:Cx}{h:aA}{w w':World}
structure Ext(w:World)(C D:Cx):Prop where
 le:C.Le D
 im:∀b o,b<w.heap.size->D.im b o=C.im b o
theorem Ext.refl(w:World)(C:Cx):Ext w C C:=⟨.refl C,fun _ _ _=>rfl⟩
theorem nN(h:∀b o u,C.im b o=some u->D.im b o=some u):(Cx.pure C.im).Le (Cx.pure D.im):=⟨h,(fun _ _ x=>by cases x),(fun _ _ _ x=>by cases x)⟩
theorem BlkOK.ext{l:Nat}{t:Blk}(q:BlkOK B C w l t)(a:Ext w C D)(N:Below w.heap.size w w'):BlkOK B D w' l t:=by
 have p:∀b o,w.heap[b]?=some o->w'.heap[b]?=some o:=fun b o A=>(N.block b (gY A)).trans A;have E:=nN a.le.im;cases t with
 |cellsT tg vs=>
  obtain⟨b,z,e,c,d,f,h4,h5,g⟩:=q;exact⟨b,z,e,a.le.bl _ _ c,d,p _ _ f,fun o=>by rw[a.im b o (gY f)];exact h4 o,h5.mono a.le,g⟩|arrX U tg sz a1 Z wr=>
  rcases q with⟨c,d⟩|⟨r,z,c,d,f,h4,h5,g,J,K,L,M,H,I⟩;·exact .inl ⟨a.le.ar _ _ _ c,d⟩
  ·refine .inr ⟨r,z,a.le.ar _ _ _ c,d,f,h4,h5,p _ _ g,J,K.mono (a.le.at U),L,fun e o=>by rw[a.im _ o (gY g)];exact M e o,fun e j u O Q=>a.le.im _ _ _ (H e j u O Q),I⟩|map W=>
  obtain⟨b,T,F,c,d,f,h4,h5,g⟩:=q;exact⟨b,T,F,a.le.bl _ _ c,d,p _ _ f,h4,fun i k v m x y=>⟨(h5 i k v m x y).1.mono E,(h5 i k v m x y).2.mono E⟩,g⟩|iter s Y=>
  obtain⟨b,c,d,f⟩:=q;exact⟨b,a.le.bl _ _ c,d,p _ _ f⟩|lp V x=>
  obtain⟨b,r,c,d,f,h4⟩:=q;exact⟨b,r,a.le.bl _ _ c,d,f,p _ _ h4⟩|mit m n seen X=>
  obtain⟨b,S,c,d,f,h4⟩:=q;exact⟨b,S,a.le.bl _ _ c,d,p _ _ f,h4.mono a.le⟩|dead=>trivial
theorem rQ{l:Nat}{f:Blk}(d:BlkOK B C w l f)(c:C.Le D):bJ D l f=bJ C l f:=by cases f with
 |cellsT tg E=>
  obtain⟨b,g,e,a,_⟩:=d;simp[bJ,a,c.bl _ _ a]|arrX u tg z A y wr=>
  rcases d with⟨a,o⟩|⟨r,g,a,_⟩;·simp[bJ,a,c.ar _ _ _ a]
  ·simp[bJ,a,c.ar _ _ _ a]|map k=>
  obtain⟨b,t,j,a,_⟩:=d;simp[bJ,a,c.bl _ _ a]|iter s v=>
  obtain⟨b,a,_⟩:=d;simp[bJ,a,c.bl _ _ a]|lp i x=>
  obtain⟨b,r,a,_⟩:=d;simp[bJ,a,c.bl _ _ a]|mit m n seen p=>
  obtain⟨b,q,a,_⟩:=d;simp[bJ,a,c.bl _ _ a]|dead=>rfl
theorem DT{l b:Nat}{i:Blk}(f:BlkOK B C w l i)(a:bJ C l i=some b):b<w.heap.size:=by cases i with
 |cellsT tg I=>
  obtain⟨g,j,e,c,_,d,_⟩:=f;simp only[bJ,c,aT]at a;subst a;exact gY d|arrX z tg F H E wr=>
  rcases f with⟨c,t⟩|⟨r,j,c,_,_,_,_,k,_⟩;·simp[bJ,c]at a
  ·simp only[bJ,c,aT]at a;subst a;exact gY k|map q=>
  obtain⟨g,y,p,c,_,d,_⟩:=f;simp only[bJ,c,aT]at a;subst a;exact gY d|iter s A=>
  obtain⟨g,c,_,d⟩:=f;simp only[bJ,c,aT]at a;subst a;exact gY d|lp o x=>
  obtain⟨g,r,c,_,_,d⟩:=f;simp only[bJ,c,aT]at a;subst a;exact gY d|mit m n seen u=>
  obtain⟨g,v,c,_,d,_⟩:=f;simp only[bJ,c,aT]at a;subst a;exact gY d|dead=>simp[bJ]at a
theorem Inv.extend(a:Inv B C h w)(c:Ext w C D)(e:Below w.heap.size w w')(y:∀b o u,D.im b o=some u->w'.cell? ⟨b,o,none⟩=some u)(E:∀b o u,D.im b o=some u->u.oneCell'=true)(s:∀l,h.length<=l->D.bl l=none/\∀v,D.ar l v=none)(t:∀(l:Nat)H tg J q I wr,h[l]?=some (.arrX H tg J q I wr)->∀v,q<v->D.ar l v=none):Inv B D h w':=by
 refine⟨y,E,fun l d A=>(a.ok l d A).ext c e,fun l p d f b i j m h4=>?_,s,t,qL a.hB e.size,fun b o u n F=>a.low b o u n (by rw[<-c.im b o (vG n a.hB)];exact F),fun g r x=>(a.gl g r x).mono (nN c.le.im),a.tb.mono (fun k _ z=>e.block k z),a.rcl,a.cle.trans c.le⟩;rw[rQ (a.ok l d i) c.le]at m;rw[rQ (a.ok p f j) c.le]at h4;exact a.inj l p d f b i j m h4
theorem Inv.add(a:Inv B C h w)(d:Ext w C D)(E:Below w.heap.size w w')(Q:∀b o u,D.im b o=some u->w'.cell? ⟨b,o,none⟩=some u)(T:∀b o u,D.im b o=some u->u.oneCell'=true){blk:Blk}(S:BlkOK B D w' h.length blk)(I:∀b,bJ D h.length blk=some b->w.heap.size<=b)(M:∀l,l≠h.length->D.bl l=C.bl l)(F:∀l v,l≠h.length->D.ar l v=C.ar l v)(N:∀s tg z n y wr,blk=.arrX s tg z n y wr->∀v,n<v->D.ar h.length v=none):Inv B D (h++[blk]) w':=by
 have t:∀(l:Nat)k,(h++[blk])[l]?=some k->(l<h.length/\h[l]?=some k)\/(l=h.length/\k=blk):=by
  intro l k c;by_cases q:l<h.length;·rw[gC q]at c;exact .inl ⟨q,c⟩
  ·rw[fT (by omega)]at c;have:l-h.length=0:=by
    rcases IB (l-h.length)with e|e;·exact e
    ·rw[lX (by simp;omega)]at c;cases c
   rw[this]at c;simp at c;exact .inr ⟨by omega,c.symm⟩
 refine⟨Q,T,fun l k c=>?_,fun l m k j b A L i h4=>?_,fun l q=>?_,fun l s tg z n y wr c v J=>?_,qL a.hB E.size,fun b o u H U=>a.low b o u H (by rw[<-d.im b o (vG H a.hB)];exact U),fun g r O=>(a.gl g r O).mono (nN d.le.im),a.tb.mono (fun k _ c=>E.block k c),fun l x V=>by have:=a.rcl l x V;simp;omega,a.cle.trans d.le⟩
 ·rcases t l k c with⟨_,A⟩|⟨rfl,rfl⟩;·exact(a.ok l k A).ext d E
  ·exact S
 ·rcases t l k A with⟨K,f⟩|⟨rfl,rfl⟩<;>rcases t m j L with⟨W,p⟩|⟨rfl,rfl⟩
  ·rw[rQ (a.ok l k f) d.le]at i;rw[rQ (a.ok m j p) d.le]at h4;exact a.inj l m k j b f p i h4
  ·rw[rQ (a.ok l k f) d.le]at i;have:=DT (a.ok l k f) i;have:=I b h4;omega
  ·rw[rQ (a.ok m j p) d.le]at h4;have:=DT (a.ok m j p) h4;have:=I b i;omega
  ·rfl
 ·simp at q;have:=a.fr l (by omega);exact⟨by rw[M l (by omega)];exact this.1,fun v=>by rw[F l v (by omega)];exact this.2 v⟩
 ·rcases t l _ c with⟨K,f⟩|⟨rfl,e⟩;·rw[F l v (by omega)];exact a.fv l s tg z n y wr f v J
  ·exact N s tg z n y wr e.symm v J
def Cx.addBl(C:Cx)(l b:Nat):Cx:={C with bl:=fun k=>if k=l then some b else C.bl k}
def Cx.addAr(C:Cx)(l a:Nat)(r:Option RowAt):Cx:={C with ar:=fun k v=>if k=l/\v=a then some r else C.ar k v}
theorem JI{l:Nat}(b:Nat)(a:C.bl l=none):Ext w C (C.addBl l b):=⟨⟨fun _ _ _ x=>x,fun k c x=>by
 simp only[Cx.addBl];split;·rename_i e;subst e;rw[a]at x;cases x
 ·exact x,fun _ _ _ x=>x⟩,fun _ _ _=>rfl⟩
theorem JH{l a:Nat}(r:Option RowAt)(b:C.ar l a=none):Ext w C (C.addAr l a r):=⟨⟨fun _ _ _ x=>x,fun _ _ x=>x,fun k v c x=>by
 simp only[Cx.addAr];split;·rename_i e;obtain⟨rfl,rfl⟩:=e;rw[b]at x;cases x
 ·exact x⟩,fun _ _ _=>rfl⟩
theorem iA(w:World)(o:Obj):Below w.heap.size w (w.alloc o):=(Below.refl _ _).alloc (dA _) o
theorem TJ(w:World):Below w.heap.size w w.drew:=(Below.refl _ _).drew
theorem vT(c:Inv B C h w)(a:Below w.heap.size w w'):∀b o u,C.im b o=some u->w'.cell? ⟨b,o,none⟩=some u:=(c.grow a).im
theorem qU(w:World)(o:Obj):(w.alloc o).heap[w.heap.size]?=some o:=heap_alloc_new w o
theorem TC(a:Inv B C h w){g:List AV}{f:Array Value}(n:RelL C g f.toList)(e:TypeId){tg:Option TypeId}(p:CH tg e):Inv B (C.addBl h.length w.heap.size) (h++[.cellsT tg g]) (w.alloc (.cells f e))/\Rel (C.addBl h.length w.heap.size) (.ptr h.length 0) (.pointer (some ⟨w.heap.size,0,none⟩))/\C.Le (C.addBl h.length w.heap.size):=by
 have m:=(a.fr h.length (dA _)).1;have d:=JI (w:=w) w.heap.size m;have c:(C.addBl h.length w.heap.size).bl h.length=some w.heap.size:=by simp[Cx.addBl]
 refine⟨a.add d (iA w _) (fun b o u x=>vT a (iA w _) b o u x) (fun b o u x=>a.one b o u x) (blk:=.cellsT tg g) ⟨w.heap.size,f,e,c,a.hB,qU w _,fun o=>?_,n.mono d.le,p⟩ (fun b k=>?_) (fun l j=>by simp[Cx.addBl,j]) (fun l v j=>rfl) (fun q tg s t r wr e=>by cases e),.ptr _ _ _ c,d.le⟩;·cases i:C.im w.heap.size o with
  |none=>exact i|some u=>have:=rR (a.im _ _ _ i);omega
 ·simp only[bJ,c,aT]at k;omega
theorem zh5(c:Inv B C h w){b:List AV}{a:Array Value}(d:RelL C b a.toList)(e:TypeId):Inv B (C.addBl h.length w.heap.size) (h++[.cells b]) (w.alloc (.cells a e))/\Rel (C.addBl h.length w.heap.size) (.ptr h.length 0) (.pointer (some ⟨w.heap.size,0,none⟩))/\C.Le (C.addBl h.length w.heap.size):=TC c d e (ZJ e)
theorem ye0(a:Inv B C h w):Inv B (C.addBl h.length w.heap.size) (h++[.map []]) (w.alloc (.map #[] 0))/\Rel (C.addBl h.length w.heap.size) (.map h.length) (.map (some w.heap.size))/\C.Le (C.addBl h.length w.heap.size):=by
 have j:=(a.fr h.length (dA _)).1;have d:=JI (w:=w) w.heap.size j;have c:(C.addBl h.length w.heap.size).bl h.length=some w.heap.size:=by simp[Cx.addBl]
 refine⟨a.add d (iA w _) (fun b o u x=>vT a (iA w _) b o u x) (fun b o u x=>a.one b o u x) (blk:=.map []) ⟨w.heap.size,#[],0,c,a.hB,qU w _,rfl,(fun i k v m x=>by simp at x),rfl,fun i m x=>by simp at x⟩ (fun b g=>?_) (fun l f=>by simp[Cx.addBl,f]) (fun l v f=>rfl) (fun n tg q r p wr e=>by cases e),.map _ _ c,d.le⟩;simp only[bJ,c,aT]at g;omega
theorem yd9(a:Inv B C h w)(s:List UInt8):Inv B (C.addBl h.length w.heap.size) (h++[.iter s 0]) (w.alloc (.stringIter ⟨s.toArray⟩ 0))/\Rel (C.addBl h.length w.heap.size) (.ptr h.length 0) (.pointer (some ⟨w.heap.size,0,none⟩))/\C.Le (C.addBl h.length w.heap.size):=by
 have i:=(a.fr h.length (dA _)).1;have d:=JI (w:=w) w.heap.size i;have c:(C.addBl h.length w.heap.size).bl h.length=some w.heap.size:=by simp[Cx.addBl]
 refine⟨a.add d (iA w _) (fun b o u x=>vT a (iA w _) b o u x) (fun b o u x=>a.one b o u x) (blk:=.iter s 0) ⟨w.heap.size,c,a.hB,qU w _⟩ (fun b g=>?_) (fun l f=>by simp[Cx.addBl,f]) (fun l v f=>rfl) (fun j tg m n k wr e=>by cases e),.ptr _ _ _ c,d.le⟩;simp only[bJ,c,aT]at g;omega
theorem zh7(a:Inv B C h w){m mo:Option Nat}(n f:Nat)(j:mitB C m mo):Inv B (C.addBl h.length w.heap.size) (h++[.mit m n [] f]) (w.alloc (.mapIter mo n #[] f))/\Rel (C.addBl h.length w.heap.size) (.ptr h.length 0) (.pointer (some ⟨w.heap.size,0,none⟩))/\C.Le (C.addBl h.length w.heap.size):=by
 have k:=(a.fr h.length (dA _)).1;have d:=JI (w:=w) w.heap.size k;have c:(C.addBl h.length w.heap.size).bl h.length=some w.heap.size:=by simp[Cx.addBl]
 refine⟨a.add d (iA w _) (fun b o u x=>vT a (iA w _) b o u x) (fun b o u x=>a.one b o u x) (blk:=.mit m n [] f) ⟨w.heap.size,mo,c,a.hB,qU w _,j.mono d.le⟩ (fun b i=>?_) (fun l g=>by simp[Cx.addBl,g]) (fun l v g=>rfl) (fun p tg r s q wr e=>by cases e),.ptr _ _ _ c,d.le⟩;simp only[bJ,c,aT]at i;omega
theorem TD(a:Inv B C h w)(tg:Option TypeId)(g:Nat):Inv B (C.addAr h.length 0 none) (h++[.arrT tg g 0 [] true]) w/\Rel (C.addAr h.length 0 none) (.own h.length 0 0) (.slice none 0 0)/\C.Le (C.addAr h.length 0 none):=by
 have k:=(a.fr h.length (dA _)).2 0;have d:=JH (w:=w) none k;have c:(C.addAr h.length 0 none).ar h.length 0=some none:=by simp[Cx.addAr]
 refine⟨a.add d (Below.refl _ _) a.im (fun b o u x=>a.one b o u x) (blk:=.arrT tg g 0 [] true) (.inl ⟨c,rfl⟩) (fun b j=>by simp[bJ,c]at j) (fun l f=>rfl) (fun l v f=>by simp[Cx.addAr,f]) (fun r y t z s wr e v q=>?_),.ownnil _ _ c,d.le⟩;injection e with p n m i;subst i;simp only[Cx.addAr,true_and];rw[if_neg (by omega)];exact(a.fr h.length (dA _)).2 v
theorem NT(b:Inv B C h w)(a:Nat):Inv B (C.addAr h.length 0 none) (h++[.arr a 0 [] true]) w/\Rel (C.addAr h.length 0 none) (.own h.length 0 0) (.slice none 0 0)/\C.Le (C.addAr h.length 0 none):=TD b none a
theorem zh4(a:Inv B C h w){rows:List (List AV)}{cur:Array Value}{e:TypeId}{size cap:Nat}(c:Below w.heap.size w w'){cv:Bool}(q:w'.heap[w.heap.size]?=some (.cells cur e (RowAt.fz ⟨w.heap.size,cap,size,e,cv⟩)))(f:rows.length<=cap)(p:cap<=maxLen)(t:∀z∈rows,z.length=size)(n:cur.size=cap*size)(s:RelL (Cx.pure C.im) rows.flatten (cur.toList.take (rows.length*size)))(k:∀u∈cur.toList.take (rows.length*size),u.oneCell'=true){tg:Option TypeId}(y:tagArr tg e rows):Inv B (C.addAr h.length 0 (some ⟨w.heap.size,cap,size,e,cv⟩)) (h++[.arrT tg size 0 rows true]) w'/\Rel (C.addAr h.length 0 (some ⟨w.heap.size,cap,size,e,cv⟩)) (.own h.length 0 rows.length) (.slice (some ⟨w.heap.size,0,none⟩) rows.length cap)/\C.Le (C.addAr h.length 0 (some ⟨w.heap.size,cap,size,e,cv⟩)):=by
 have r:=(a.fr h.length (dA _)).2 0;have g:=JH (w:=w) (some ⟨w.heap.size,cap,size,e,cv⟩) r;have d:(C.addAr h.length 0 (some ⟨w.heap.size,cap,size,e,cv⟩)).ar h.length 0=some (some ⟨w.heap.size,cap,size,e,cv⟩):=by simp[Cx.addAr]
 refine⟨a.add g c (fun b o u x=>vT a c b o u x) (fun b o u x=>a.one b o u x) (blk:=.arrT tg size 0 rows true) (.inr ⟨_,cur,d,a.hB,f,p,t,q,n,s,k,fun _ o=>?_,(fun e=>by cases e),rfl,y⟩) (fun b c=>?_) (fun l i=>rfl) (fun l v i=>by simp[Cx.addAr,i]) (fun I K J L rows wr e v H=>?_),.own _ _ _ ⟨w.heap.size,cap,size,e,cv⟩ d f,g.le⟩
 ·show C.im w.heap.size o=none;cases m:C.im w.heap.size o with
  |none=>rfl|some u=>have:=rR (a.im _ _ _ m);omega
 ·simp only[bJ,d,aT]at c;omega
 ·injection e with F E A j;subst j;simp only[Cx.addAr,true_and];rw[if_neg (by omega)];exact(a.fr h.length (dA _)).2 v
theorem TA(k:Inv B C h w){a:List (List AV)}{d:Array Value}{e:TypeId}{b c:Nat}(g:Below w.heap.size w w')(m:w'.heap[w.heap.size]?=some (.cells d e (0,0)))(i:a.length<=c)(l:c<=maxLen)(o:∀q∈a,q.length=b)(j:d.size=c*b)(n:RelL (Cx.pure C.im) a.flatten (d.toList.take (a.length*b)))(f:∀u∈d.toList.take (a.length*b),u.oneCell'=true){tg:Option TypeId}(p:tagArr tg e a):Inv B (C.addAr h.length 0 (some ⟨w.heap.size,c,b,e,false⟩)) (h++[.arrT tg b 0 a true]) w'/\Rel (C.addAr h.length 0 (some ⟨w.heap.size,c,b,e,false⟩)) (.own h.length 0 a.length) (.slice (some ⟨w.heap.size,0,none⟩) a.length c)/\C.Le (C.addAr h.length 0 (some ⟨w.heap.size,c,b,e,false⟩)):=zh4 (cv:=false) k g m i l o j n f p
theorem NS(f:Inv B C h w){rows:List (List AV)}{cur:Array Value}{e:TypeId}{size cap:Nat}(b:Below w.heap.size w w')(i:w'.heap[w.heap.size]?=some (.cells cur e (0,0)))(c:rows.length<=cap)(g:cap<=maxLen)(k:∀l∈rows,l.length=size)(d:cur.size=cap*size)(j:RelL (Cx.pure C.im) rows.flatten (cur.toList.take (rows.length*size)))(a:∀u∈cur.toList.take (rows.length*size),u.oneCell'=true):Inv B (C.addAr h.length 0 (some ⟨w.heap.size,cap,size,e,false⟩)) (h++[.arr size 0 rows true]) w'/\Rel (C.addAr h.length 0 (some ⟨w.heap.size,cap,size,e,false⟩)) (.own h.length 0 rows.length) (.slice (some ⟨w.heap.size,0,none⟩) rows.length cap)/\C.Le (C.addAr h.length 0 (some ⟨w.heap.size,cap,size,e,false⟩)):=TA f b i c g k d j a (ZI e rows)
end
section
variable{P:Program}{B:Base}{C D:Cx}{h:aA}{w w':World}
theorem BlkOK.stay{l:Nat}{A:Blk}(t:BlkOK B C w l A)(d:C.Le D)(q:∀b,bJ C l A=some b->w'.heap[b]?=w.heap[b]?/\∀o,D.im b o=C.im b o):BlkOK B D w' l A:=by
 have F:=nN d.im;cases A with
 |cellsT tg vs=>
  obtain⟨b,E,e,a,c,g,h4,h5,z⟩:=t;obtain⟨f,p⟩:=q b (by simp[bJ,a]);exact⟨b,E,e,d.bl _ _ a,c,f.trans g,fun o=>by rw[p];exact h4 o,h5.mono d,z⟩|arrX U tg sz a3 Z wr=>
  rcases t with⟨a,c⟩|⟨r,E,a,c,g,h4,h5,z,K,L,M,N,I,J⟩;·exact .inl ⟨d.ar _ _ _ a,c⟩
  ·obtain⟨f,p⟩:=q r.block (by simp[bJ,a]);exact .inr ⟨r,E,d.ar _ _ _ a,c,g,h4,h5,f.trans z,K,L.mono (d.at U),M,fun e o=>by rw[p];exact N e o,fun e j u O Q=>d.im _ _ _ (I e j u O Q),J⟩|map W=>
  obtain⟨b,T,H,a,c,g,h4,h5,z⟩:=t;obtain⟨f,p⟩:=q b (by simp[bJ,a]);exact⟨b,T,H,d.bl _ _ a,c,f.trans g,h4,fun i k v m x y=>⟨(h5 i k v m x y).1.mono F,(h5 i k v m x y).2.mono F⟩,z⟩|iter s Y=>
  obtain⟨b,a,c,g⟩:=t;obtain⟨f,p⟩:=q b (by simp[bJ,a]);exact⟨b,d.bl _ _ a,c,f.trans g⟩|lp V x=>
  obtain⟨b,r,a,c,g,h4⟩:=t;obtain⟨f,p⟩:=q b (by simp[bJ,a]);exact⟨b,r,d.bl _ _ a,c,g,f.trans h4⟩|mit m n seen X=>
  obtain⟨b,S,a,c,g,h4⟩:=t;obtain⟨f,p⟩:=q b (by simp[bJ,a]);exact⟨b,S,d.bl _ _ a,c,f.trans g,h4.mono d⟩|dead=>trivial
theorem zk1{n:Base}{l b:Nat}{j:Blk}(f:BlkOK n C w l j)(a:bJ C l j=some b):n<=b:=by cases j with
 |cellsT tg H=>
  obtain⟨g,k,e,c,d,i,_⟩:=f;simp only[bJ,c,aT]at a;subst a;exact d|arrX y tg E F A wr=>
  rcases f with⟨c,d⟩|⟨r,k,c,d,_⟩;·simp[bJ,c]at a
  ·simp only[bJ,c,aT]at a;subst a;exact d|map q=>
  obtain⟨g,v,p,c,d,i,_⟩:=f;simp only[bJ,c,aT]at a;subst a;exact d|iter s z=>
  obtain⟨g,c,d,i⟩:=f;simp only[bJ,c,aT]at a;subst a;exact d|lp o x=>
  obtain⟨g,r,c,d,i⟩:=f;simp only[bJ,c,aT]at a;subst a;exact d|mit m n seen t=>
  obtain⟨g,u,c,d,i⟩:=f;simp only[bJ,c,aT]at a;subst a;exact d|dead=>simp[bJ]at a
theorem Inv.turn(a:Inv B C h w){l:Nat}{d j:Blk}(n:h[l]?=some d)(f:C.Le D)(V:w.heap.size<=w'.heap.size)(t:∀b,bJ C l d≠some b->b<w.heap.size->w'.heap[b]?=w.heap[b]?/\∀o,D.im b o=C.im b o)(N:∀b o u,D.im b o=some u->w'.cell? ⟨b,o,none⟩=some u)(U:∀b o u,D.im b o=some u->u.oneCell'=true)(T:BlkOK B D w' l j)(A:∀b,bJ D l j=some b->bJ C l d=some b\/w.heap.size<=b)(K:∀k,h.length<=k->D.bl k=none/\∀v,D.ar k v=none)(L:∀(k:Nat)X tg Z H Y wr,(h.set l j)[k]?=some (.arrX X tg Z H Y wr)->∀v,H<v->D.ar k v=none):Inv B D (h.set l j) w':=by
 have Q:l<h.length:=(aV.1 n).1;have get:∀(k:Nat)x,(h.set l j)[k]?=some x->(k=l/\x=j)\/(k≠l/\h[k]?=some x):=by
  intro k x c;rw[iY]at c;by_cases e:l=k;·subst e;rw[if_pos rfl,if_pos Q]at c;injection c with c;exact .inl ⟨rfl,c.symm⟩
  ·rw[if_neg e]at c;exact .inr ⟨fun x=>e x.symm,c⟩
 refine⟨N,U,fun k x c=>?_,fun k i x p b I J m h4=>?_,fun k E=>K k (by simpa using E),L,qL a.hB V,fun b o u F W=>a.low b o u F ?_,fun g r M=>(a.gl g r M).mono (nN f.im),a.tb.mono (fun k E O=>(t k (fun e=>by have:=zk1 (a.ok l d n) e;omega) O).1),fun l x c=>by simpa using a.rcl l x c,a.cle.trans f⟩
 ·rcases get k x c with⟨rfl,rfl⟩|⟨S,y⟩;·exact T
  ·refine(a.ok k x y).stay f fun b z=>t b (fun e=>S (a.inj k l x d b y n z e)) (DT (a.ok k x y) z)
 ·rcases get k x I with⟨rfl,rfl⟩|⟨n1,q⟩<;>rcases get i p J with⟨rfl,rfl⟩|⟨n2,s⟩;·rfl
  ·rw[rQ (a.ok i p s) f]at h4;rcases A b m with e|e;·exact a.inj k i d p b n s e h4
   ·have:=DT (a.ok i p s) h4;omega
  ·rw[rQ (a.ok k x q) f]at m;rcases A b h4 with e|e;·exact a.inj k i x d b q n m e
   ·have:=DT (a.ok k x q) m;omega
  ·rw[rQ (a.ok k x q) f]at m;rw[rQ (a.ok i p s) f]at h4;exact a.inj k i x p b q s m h4
 ·rw[<-(t b (fun e=>by have:=zk1 (a.ok l d n) e;omega) (vG F a.hB)).2 o];exact W
def Cx.withRow(C:Cx)(b n:Nat)(a:Array Value):Cx:={C with im:=fun k o=>if k=b/\o<n then a[o]? else C.im k o}
theorem yz8(a:Inv B C h w)(l:Nat):∃D,C.Le D/\Inv B D (mI h l) w/\D.bl=C.bl/\D.ar=C.ar/\(∀tg n m f wr r g,h[l]?=some (.arrT tg n m f wr)->C.ar l m=some (some r)->w.heap[r.block]?=some (.cells g r.elem r.fz)->∀j,j<f.length*r.size->D.im r.block j=g[j]?):=by cases d:h[l]? with
 |none=>exact⟨C,.refl C,by simpa[mI,d]using a,rfl,rfl,fun tg n m f wr r g e=>by cases e⟩|some S=>cases S with
  |arrX ne tg n m f wr=>cases ne with
   |true=>exact⟨C,.refl C,by simpa[mI,d]using a,rfl,rfl,fun tg n m f wr r g e=>by cases e⟩|false=>
   rcases a.ok l _ d with⟨q,J⟩|⟨r,g,q,J,N,h4,h5,I,O,h8,Q,h9,b3,Z⟩
   ·refine⟨C,.refl C,?_,rfl,rfl,fun A z E y F r' T e p=>?_⟩
    ·simp only[mI,d];refine a.turn d (.refl C) (dA _) (fun _ _ _=>⟨rfl,fun _=>rfl⟩) a.im a.one (.inl ⟨q,J⟩) (fun b s=>.inl s) a.fr (fun k M A z E y F c v t=>?_);rw[iY]at c;by_cases e:l=k
     ·subst e;rw[if_pos rfl,if_pos (aV.1 d).1]at c;injection c with c;injection c with b1 a3 a2 c;subst c;exact a.fv l _ tg n m f wr d v t
     ·rw[if_neg e]at c;exact a.fv k M A z E y F c v t
    ·injection e with e;injection e with Y X W e;subst e;rw[q]at p;cases p
   ·have c1:f.length*r.size<=g.size:=by rw[O];exact kQ _ N
    have hold:∀o u,C.im r.block o=some u->g[o]?=some u:=fun o u i=>by have:=a.im _ _ _ i;rwa[cell_of_heap I]at this
    have L:C.Le (C.withRow r.block (f.length*r.size) g):=⟨fun b o u i=>by
     simp only[Cx.withRow];split;·rename_i e;obtain⟨rfl,_⟩:=e;exact hold o u i
     ·exact i,fun _ _ x=>x,fun _ _ _ x=>x⟩;refine⟨C.withRow r.block (f.length*r.size) g,L,?_,rfl,rfl,fun A z E y F r' T e p H j K=>?_⟩
    ·simp only[mI,d];have a1:bJ C l (.arrT tg n m f wr)=some r.block:=by simp[bJ,q]
     refine a.turn d L (dA _) (fun b s _=>⟨rfl,fun o=>?_⟩) (fun b o u i=>?_) (fun b o u i=>?_) ?_ (fun b s=>.inl s) a.fr (fun k M A z E y F c v t=>?_);·simp only[Cx.withRow];rw[if_neg (fun e=>s (by rw[a1,e.1]))]
     ·simp only[Cx.withRow]at i;split at i;·rename_i e;obtain⟨rfl,_⟩:=e;rw[cell_of_heap I];exact i
      ·exact a.im _ _ _ i
     ·simp only[Cx.withRow]at i;split at i
      ·rename_i e;refine Q u (fB (i:=o) ?_);rw[fZ,if_pos e.2];simpa using i
      ·exact a.one _ _ _ i
     ·refine .inr ⟨r,g,q,J,N,h4,h5,I,O,h8.mono (nN L.im),Q,(fun e=>by cases e),fun _ j u K i=>?_,Z⟩;simp only[Cx.withRow,true_and];rw[if_pos K];exact i
     ·rw[iY]at c;by_cases e:l=k
      ·subst e;rw[if_pos rfl,if_pos (aV.1 d).1]at c;injection c with c;injection c with b1 a3 a2 c;subst c;exact a.fv l _ tg n m f wr d v t
      ·rw[if_neg e]at c;exact a.fv k M A z E y F c v t
    ·injection e with e;injection e with Y X W e U V;subst e U V;rw[q]at p;injection p with p;cases p;rw[I]at H;injection H with H;cases H;simp only[Cx.withRow,true_and];rw[if_pos K]
  |cellsT tg vs=>exact⟨C,.refl C,by simpa[mI,d]using a,rfl,rfl,fun tg n m f wr r g e=>by cases e⟩|map es=>exact⟨C,.refl C,by simpa[mI,d]using a,rfl,rfl,fun tg n m f wr r g e=>by cases e⟩|iter d3 d2=>exact⟨C,.refl C,by simpa[mI,d]using a,rfl,rfl,fun tg n m f wr r g e=>by cases e⟩|lp b2 x=>exact⟨C,.refl C,by simpa[mI,d]using a,rfl,rfl,fun tg n m f wr r g e=>by cases e⟩|mit c3 d1 seen c2=>exact⟨C,.refl C,by simpa[mI,d]using a,rfl,rfl,fun tg n m f wr r g e=>by cases e⟩|dead=>exact⟨C,.refl C,by simpa[mI,d]using a,rfl,rfl,fun tg n m f wr r g e=>by cases e⟩
theorem yz7{tg:Option TypeId}{l k:Nat}{d f:Nat}{c:List (List AV)}{wr:Bool}(h:aA)(a:h[k]?=some (.arrT tg d f c wr)):∃g,(mI h l)[k]?=some (.arrT tg d f c g):=by
 unfold mI;split
 ·rename_i s r t q g b;rw[iY];by_cases e:l=k
  ·subst e;rw[a]at b;injection b with b;injection b with p j i m n o;subst j i m n o;exact⟨false,by rw[if_pos rfl,if_pos (aV.1 a).1]⟩
  ·exact⟨wr,by rw[if_neg e];exact a⟩
 ·exact⟨wr,a⟩
def yc9(C D:Cx)(h:aA)(w:World)(d:List Nat):Prop:=∀l∈d,∀tg e c b wr r a,h[l]?=some (.arrT tg e c b wr)->C.ar l c=some (some r)->w.heap[r.block]?=some (.cells a r.elem r.fz)->∀j u,j<b.length*r.size->a[j]?=some u->D.im r.block j=some u
theorem EE:∀(a:List Nat){C:Cx}{h:aA},Inv B C h w->∃D,C.Le D/\Inv B D (eS h a) w/\D.bl=C.bl/\D.ar=C.ar/\yc9 C D h w a
 |[],C,h,b=>⟨C,.refl C,b,rfl,rfl,fun l x=>by cases x⟩|l::a,C,h,b=>by
  obtain⟨D,s,t,v,h4,h5⟩:=yz8 b l;obtain⟨E,k1,k2,k3,k4,k5⟩:=EE a t;refine⟨E,s.trans k1,k2,k3.trans v,k4.trans h4,fun k c tg p q o wr r d e f i j u m n=>?_⟩;rcases fE.1 c with rfl|c;·exact k1.im _ _ _ (by rw[h5 tg p q o wr r d e f i j m];exact n)
  ·obtain⟨y,g⟩:=yz7 (l:=l) h e;exact k5 k c tg p q o y r d g (by rw[h4];exact f) i j u m n
def DM(C:Cx)(I:Nat->Nat->Option Value)(h:aA)(w:World)(d:List Nat):Prop:=∀l∈d,∀tg e c b wr r a,h[l]?=some (.arrT tg e c b wr)->C.ar l c=some (some r)->w.heap[r.block]?=some (.cells a r.elem r.fz)->∀j u,j<b.length*r.size->a[j]?=some u->I r.block j=some u
theorem zM2(F:Inv B C h w){I:Nat->Nat->Option Value}(E:∀b o u,C.im b o=some u->I b o=some u){l A n:Nat}{z:List (List AV)}{x:Value}(L:DM C I h w [l])(g:rowsOf h (.own l A n)=some z)(N:Rel C (.own l A n) x):Rel (Cx.pure I) (.sl z) x:=by
 simp only[rowsOf]at g;split at g
 ·rename_i T U e wr v;split at g
  ·rename_i f;obtain⟨rfl,Q⟩:=f;cases g;cases N with
   |ownnil _ _ p=>simp;exact .slnil|own _ _ _ r p O=>
    rcases F.ok l _ v with⟨k1,_⟩|⟨S,d,k1,k2,k3,k4,k5,k6,k7,k8,_⟩;·rw[p]at k1;cases k1
    ·rw[p]at k1;injection k1 with k1;cases k1;have J:(e.take n).length=n:=by simp;omega
     have y:Rel (Cx.pure I) (.sl (e.take n)) (.slice (some ⟨r.block,0,none⟩) (e.take n).length r.cap):=by
      refine .sl _ r.block 0 r.cap r.size (fun i j=>(d.toList[i*r.size+j]?).getD undef) (by omega) ?_ ?_ ?_
      ·intro i k a;exact k5 k (vF (fB a))
      ·intro i k j c a f;have q:i<e.length:=by have:=(aV.1 a).1;simp at this;omega
       rw[fZ]at a;split at a
       ·have t:=k5 k (fB a);have H:j<r.size:=by rw[<-t];exact(aV.1 f).1
        have s:(i+1)*r.size<=e.length*r.size:=kQ _ q;rw[gR]at s;have K:e.length*r.size<=d.size:=by rw[k7];exact kQ _ k3
        have m:i*r.size+j<d.size:=by omega
        have M:d[i*r.size+j]?=some d[i*r.size+j]:=by simp[m]
        rw[eR];refine(L l (by simp) _ _ _ _ _ _ _ v p k6 (i*r.size+j) _ (by omega) M).trans ?_;simp[m]
       ·cases a
      ·intro i k j c a f;have q:i<e.length:=by have:=(aV.1 a).1;simp at this;omega
       rw[fZ]at a;split at a
       ·have t:=k5 k (fB a);have H:j<r.size:=by rw[<-t];exact(aV.1 f).1
        have s:(i+1)*r.size<=e.length*r.size:=kQ _ q;rw[gR]at s;have K:e.length*r.size<=d.size:=by rw[k7];exact kQ _ k3
        have m:i*r.size+j<d.size:=by omega
        have:=k8.2 (i*r.size+j) c d[i*r.size+j] (JM e k5 i j k c a f) (by rw[fZ,if_pos (by omega)];simp[m]);simp only[zZ];rw[show d[i*r.size+j]?=some d[i*r.size+j]by simp[m]];exact this.mono (nN (D:=Cx.pure I) E)
       ·cases a
     rw[J]at y;exact y
  ·cases g
 ·cases g
theorem xw5(K:Inv B C h w){I:Nat->Nat->Option Value}(J:∀b o u,C.im b o=some u->I b o=some u){l H a n:Nat}{F:List (List AV)}{x:Value}(Q:DM C I h w [l])(p:FW h l H a n=some F)(T:Rel C (.win l H a n) x):Rel (Cx.pure I) (.sl F) x:=by
 unfold FW at p;split at p
 ·rename_i X Y g wr A;split at p
  ·rename_i m;obtain⟨rfl,V⟩:=m;cases p;cases T with|win _ _ _ _ r s U=>
   rcases K.ok l _ A with⟨k1,_⟩|⟨W,k,k1,k2,k3,k4,k5,k6,k7,k8,_⟩;·rw[s]at k1;cases k1
   ·rw[s]at k1;injection k1 with k1;cases k1;have N:((g.drop a).take n).length=n:=by simp;omega
    have t:∀i f,((g.drop a).take n)[i]?=some f->i<n/\g[a+i]?=some f:=fun i f d=>by
     rw[fZ]at d;split at d
     ·rename_i L;rw[nW]at d;exact⟨L,d⟩
     ·cases d
    have E:Rel (Cx.pure I) (.sl ((g.drop a).take n)) (.slice (some ⟨r.block,a*r.size,none⟩) ((g.drop a).take n).length (r.cap-a)):=by
     refine .sl _ r.block (a*r.size) (r.cap-a) r.size (fun i j=>(k.toList[(a+i)*r.size+j]?).getD undef) (by omega) ?_ ?_ ?_
     ·intro i f d;exact k5 f (fB (t i f d).2)
     ·intro i f j c d m;obtain⟨_,d⟩:=t i f d;have v:a+i<g.length:=(aV.1 d).1;have z:=k5 f (fB d);have M:j<r.size:=by rw[<-z];exact(aV.1 m).1
      have y:(a+i+1)*r.size<=g.length*r.size:=kQ _ v;rw[gR]at y;have O:g.length*r.size<=k.size:=by rw[k7];exact kQ _ k3
      have q:(a+i)*r.size+j<k.size:=by omega
      have S:k[(a+i)*r.size+j]?=some k[(a+i)*r.size+j]:=by simp[q]
      have e:a*r.size+i*r.size+j=(a+i)*r.size+j:=by rw[gR]
      rw[e];refine(Q l (by simp) _ _ _ _ _ _ _ A s k6 ((a+i)*r.size+j) _ (by omega) S).trans ?_;simp[q]
     ·intro i f j c d m;obtain⟨_,d⟩:=t i f d;have v:a+i<g.length:=(aV.1 d).1;have z:=k5 f (fB d);have M:j<r.size:=by rw[<-z];exact(aV.1 m).1
      have y:(a+i+1)*r.size<=g.length*r.size:=kQ _ v;rw[gR]at y;have O:g.length*r.size<=k.size:=by rw[k7];exact kQ _ k3
      have q:(a+i)*r.size+j<k.size:=by omega
      have:=k8.2 ((a+i)*r.size+j) c k[(a+i)*r.size+j] (JM g k5 (a+i) j f c d m) (by rw[fZ,if_pos (by omega)];simp[q]);simp only[zZ];rw[show k[(a+i)*r.size+j]?=some k[(a+i)*r.size+j]by simp[q]];exact this.mono (nN (D:=Cx.pure I) J)
    rw[N]at E;exact E
  ·cases p
 ·cases p
mutual theorem ZT(z:Inv B C h w){I:Nat->Nat->Option Value}(p:∀b o u,C.im b o=some u->I b o=some u):∀(v k:AV)(x:Value),DM C I h w (owns v)->view h v=some k->Rel C v x->Rel (Cx.pure I) k x
 |.bool b,k,x,_,e,g=>by simp only[view]at e;cases e;rw[jJ g];exact .bool _|.int b1 n,k,x,_,e,g=>by simp only[view]at e;cases e;rw[fF g];exact .int _ _|.str b2,k,x,_,e,g=>by simp only[view]at e;cases e;rw[fM g];exact .str _|.agg Y,k,x,q,e,g=>by
  simp only[view]at e;cases m:bU h Y with
  |none=>simp[m]at e|some s=>
   simp only[m,fC,aT]at e;subst e;obtain⟨r,rfl,a2⟩:=tJ g;have:=FV z p Y s r.toList (by simpa[owns]using q) m a2;exact .agg s r (by simpa using this.1) (fun i c u t M=>this.2 i c u t (by simpa using M))
 |.sl K,k,x,_,e,g=>by
  simp only[view]at e;cases e;have L:=nN (D:=Cx.pure I) p;cases g with
  |slnil=>exact .slnil|slz a Q=>exact .slz a Q|sl _ b o Q V r Z F H S=>exact .sl K b o Q V r Z F (fun i A j c x y=>p _ _ _ (H i A j c x y)) (fun i A j c x y=>(S i A j c x y).mono L)
 |.tsl K,k,x,_,e,g=>by
  simp only[view]at e;cases e;have L:=nN (D:=Cx.pure I) p;cases g with
  |tslnil=>exact .slnil|tslz a=>exact .slz a 0|tsl _ b o V r F H S=>exact .sl K b o K.length V r (dA _) F (fun i A j c x y=>p _ _ _ (H i A j c x y)) (fun i A j c x y=>(S i A j c x y).mono L)
 |.nils,k,x,_,e,g=>by simp only[view]at e;cases e;cases g;exact .slnil|.own l W n,k,x,q,e,g=>by
  simp only[view]at e;cases J:rowsOf h (.own l W n)with
  |none=>simp[J]at e|some K=>
   simp only[J,fC,aT]at e;subst e;exact zM2 z p (by simpa[owns]using q) J g
 |.win l W lo n,k,x,q,e,g=>by
  simp only[view]at e;cases J:FW h l W lo n with
  |none=>simp[J]at e|some K=>
   simp only[J,fC,aT]at e;subst e;exact xw5 z p (by simpa[owns]using q) J g
 |.fptr A a1,k,x,_,e,g=>by
  simp only[view]at e;cases e;have L:=nN (D:=Cx.pure I) p;cases g with|fptr _ _ b o r F H=>exact .fptr A a1 b o r (fun j c x=>p _ _ _ (F j c x)) (fun j c x=>(H j c x).mono L)
 |.nilp,k,x,_,e,g=>by simp only[view]at e;cases e;cases g;exact .nilp|.nilm,k,x,_,e,g=>by simp only[view]at e;cases e;cases g;exact .nilm|.nilf,k,x,_,e,g=>by simp only[view]at e;cases e;cases g;exact .nilf|.nili,k,x,_,e,g=>by simp only[view]at e;cases e;cases g;exact .nili|.fn f X,k,x,q,e,g=>by
  simp only[view]at e;cases m:bU h X with
  |none=>simp[m]at e|some s=>
   simp only[m,fC,aT]at e;subst e;cases g with|fn _ _ r U T=>
    have:=FV z p X s r.toList (by simpa[owns]using q) m ⟨by simpa using U,fun i c v t e=>T i c v t (by simpa using e)⟩;exact .fn f s r (by simpa using this.1) (fun i c u t M=>this.2 i c u t (by simpa using M))
 |.iface a3 v,k,x,q,e,g=>by
  simp only[view]at e;cases m:view h v with
  |none=>simp[m]at e|some d=>
   simp only[m,fC,aT]at e;subst e;cases g with|iface _ _ y hy=>exact .iface a3 d y (ZT z p v d y (by simpa[owns]using q) m hy)
 |.tup E,k,x,q,e,g=>by
  simp only[view]at e;cases m:bU h E with
  |none=>simp[m]at e|some s=>
   simp only[m,fC,aT]at e;subst e;cases g with|tup _ r U T=>
    have:=FV z p E s r.toList (by simpa[owns]using q) m ⟨by simpa using U,fun i c v t e=>T i c v t (by simpa using e)⟩;exact .tup s r (by simpa using this.1) (fun i c u t M=>this.2 i c u t (by simpa using M))
 |.ptr _ _,k,x,_,e,_=>by simp[view]at e|.eptr _ _ _ _,k,x,_,e,_=>by simp[view]at e|.gptr _ _,k,x,_,e,_=>by simp[view]at e|.map _,k,x,_,e,_=>by simp[view]at e|.yld _,k,x,_,e,_=>by simp[view]at e|.junk,k,x,_,e,_=>by simp[view]at e theorem FV(z:Inv B C h w){I:Nat->Nat->Option Value}(p:∀b o u,C.im b o=some u->I b o=some u):∀(E N:List AV)(O:List Value),DM C I h w (dX E)->bU h E=some N->RelL C E O->RelL (Cx.pure I) N O
 |[],N,O,_,e,g=>by simp only[bU]at e;cases e;have:=g.inv_nil;subst this;exact .nil|v::E,N,O,q,e,g=>by
  simp only[bU]at e;split at e
  ·rename_i d s F H;cases e;obtain⟨y,ys,rfl,r1,r2⟩:=g.inv_cons;simp only[dX]at q;exact .cons (ZT z p v d y (fun l m=>q l (kD.2 (.inl m))) F r1) (FV z p E s ys (fun l m=>q l (kD.2 (.inr m))) H r2)
  ·cases e end
mutual theorem ZS(A:Inv B C h w){I:Nat->Nat->Option Value}(p:∀b o u,C.im b o=some u->I b o=some u):∀(v k:AV)(x:Value),DM C I h w (owns v)->gB h v=some k->Rel C v x->Rel (Cx.pure I) k x
 |.bool b,k,x,_,e,g=>by simp only[gB]at e;cases e;rw[jJ g];exact .bool _|.int b2 n,k,x,_,e,g=>by simp only[gB]at e;cases e;rw[fF g];exact .int _ _|.str b3,k,x,_,e,g=>by simp only[gB]at e;cases e;rw[fM g];exact .str _|.agg X,k,x,r,e,g=>by
  simp only[gB]at e;cases m:rB h X with
  |none=>simp[m]at e|some s=>
   simp only[m,fC,aT]at e;subst e;obtain⟨q,rfl,a2⟩:=tJ g;have:=LN A p X s q.toList (by simpa[owns]using r) m a2;exact .agg s q (by simpa using this.1) (fun i c u t K=>this.2 i c u t (by simpa using K))
 |.sl L,k,x,_,e,g=>by
  simp only[gB]at e;cases e;have J:=nN (D:=Cx.pure I) p;cases g with
  |slnil=>exact .slnil|slz a O=>exact .slz a O|sl _ b o O V q Y F H Q=>exact .sl L b o O V q Y F (fun i z j c x y=>p _ _ _ (H i z j c x y)) (fun i z j c x y=>(Q i z j c x y).mono J)
 |.tsl L,k,x,_,e,g=>by
  simp only[gB]at e;cases e;have J:=nN (D:=Cx.pure I) p;cases g with
  |tslnil=>exact .tslnil|tslz a=>exact .tslz a|tsl _ b o V q F H Q=>exact .tsl L b o V q F (fun i z j c x y=>p _ _ _ (H i z j c x y)) (fun i z j c x y=>(Q i z j c x y).mono J)
 |.nils,k,x,_,e,g=>by simp only[gB]at e;cases e;cases g;exact .nils|.own l b1 n,k,x,r,e,g=>by
  simp only[gB]at e;cases U:rowsOf h (.own l b1 n)with
  |none=>simp[U]at e|some L=>
   simp only[U,fC,aT]at e;subst e;exact zM2 A p (by simpa[owns]using r) U g
 |.fptr z a1,k,x,_,e,g=>by
  simp only[gB]at e;cases e;have J:=nN (D:=Cx.pure I) p;cases g with|fptr _ _ b o q F H=>exact .fptr z a1 b o q (fun j c x=>p _ _ _ (F j c x)) (fun j c x=>(H j c x).mono J)
 |.nilp,k,x,_,e,g=>by simp only[gB]at e;cases e;cases g;exact .nilp|.nilm,k,x,_,e,g=>by simp only[gB]at e;cases e;cases g;exact .nilm|.nilf,k,x,_,e,g=>by simp only[gB]at e;cases e;cases g;exact .nilf|.nili,k,x,_,e,g=>by simp only[gB]at e;cases e;cases g;exact .nili|.fn f W,k,x,r,e,g=>by
  simp only[gB]at e;cases m:rB h W with
  |none=>simp[m]at e|some s=>
   simp only[m,fC,aT]at e;subst e;cases g with|fn _ _ q T S=>
    have:=LN A p W s q.toList (by simpa[owns]using r) m ⟨by simpa using T,fun i c v t e=>S i c v t (by simpa using e)⟩;exact .fn f s q (by simpa using this.1) (fun i c u t K=>this.2 i c u t (by simpa using K))
 |.iface a3 v,k,x,r,e,g=>by
  simp only[gB]at e;cases m:gB h v with
  |none=>simp[m]at e|some d=>
   simp only[m,fC,aT]at e;subst e;cases g with|iface _ _ y Z=>exact .iface a3 d y (ZS A p v d y (by simpa[owns]using r) m Z)
 |.tup E,k,x,r,e,g=>by
  simp only[gB]at e;cases m:rB h E with
  |none=>simp[m]at e|some s=>
   simp only[m,fC,aT]at e;subst e;cases g with|tup _ q T S=>
    have:=LN A p E s q.toList (by simpa[owns]using r) m ⟨by simpa using T,fun i c v t e=>S i c v t (by simpa using e)⟩;exact .tup s q (by simpa using this.1) (fun i c u t K=>this.2 i c u t (by simpa using K))
 |.ptr _ _,k,x,_,e,_=>by simp[gB]at e|.win _ _ _ _,k,x,_,e,_=>by simp[gB]at e|.eptr _ _ _ _,k,x,_,e,_=>by simp[gB]at e|.gptr _ _,k,x,_,e,_=>by simp[gB]at e|.map _,k,x,_,e,_=>by simp[gB]at e|.yld _,k,x,_,e,_=>by simp[gB]at e|.junk,k,x,_,e,_=>by simp[gB]at e theorem LN(A:Inv B C h w){I:Nat->Nat->Option Value}(p:∀b o u,C.im b o=some u->I b o=some u):∀(E M:List AV)(N:List Value),DM C I h w (dX E)->rB h E=some M->RelL C E N->RelL (Cx.pure I) M N
 |[],M,N,_,e,g=>by simp only[rB]at e;cases e;have:=g.inv_nil;subst this;exact .nil|v::E,M,N,r,e,g=>by
  simp only[rB]at e;split at e
  ·rename_i d s F H;cases e;obtain⟨y,ys,rfl,r1,r2⟩:=g.inv_cons;simp only[dX]at r;exact .cons (ZS A p v d y (fun l m=>r l (kD.2 (.inl m))) F r1) (LN A p E s ys (fun l m=>r l (kD.2 (.inr m))) H r2)
  ·cases e end
end
def ES(P:Program)(a:TypeId):Option EK:=match P.underlying a with
 |some .string=>some .s|some (.int _)=>some .i|some .bool=>some .b|_=>none
def wP(P:Program)(t:TypeId):Option Nat:=(P.info? t).map (·.bytes)
def IQ(P:Program)(own:Bool)(o:TypeId):Op->Option (AO×List Operand)
 |.alloc e=>match kK P e with
  |some z=>some (.alloc z,[])|none=>none
 |.box _ x=>some (.box,[x])|.store t a v=>match eI P t with
  |some n=>some (.st n,[a,v])|none=>none
 |.assign (.const (.slice none 0 0))=>match P.underlying o with
  |some (.slice e)=>(match eI P e with
   |some n=>some (.newnil n,[])|none=>none)|_=>none
 |.makeMap _ none=>some (.mkmap,[])|.mapUpdate t m k v=>match P.underlying t with
  |some (.map d _)=>(match ES P d with
   |some e=>some (.mapup e,[m,k,v])|none=>none)|_=>none
 |.insert t m k v=>match P.underlying t with
  |some (.map d _)=>(match ES P d with
   |some e=>some (.mapup e,[m,k,v])|none=>none)|_=>none
 |.makeSlice t l c=>match P.underlying t with
  |some (.slice e)=>(match kK P e,wP P e,eI P e with
   |some z,some b,some n=>if z.length=n/\0<n then some (.mksl z b,[l,c])else none|_,_,_=>none)|_=>none
 |.buildSlice t i f=>match P.underlying t with
  |some (.slice e)=>(match eI P e,kK P e with
   |some n,some _=>if f.toList.map (·.1)=List.range i then some (.bsl own n,f.toList.map (·.2))else none|_,_=>none)|_=>none
 |.call {callee:=.builtin .append,args,argTypes}=>match args.toList,argTypes.toList with
  |[s,x],[t,j]=>(match P.underlying t with
   |some (.slice e)=>(match eI P e,wP P e,kK P e,P.underlying j with
    |some n,some b,some z,some (.slice _)=>if 0<n/\z.length=n then some (.app false n b,[s,x])else none|some n,some b,some z,some .string=>if n=1/\z.length=n then some (.app true n b,[s,x])else none|_,_,_,_=>none)|_=>none)|_,_=>none
 |.range t x=>match P.underlying t with
  |some .string=>some (.rng,[x])|some (.map _ _)=>some (.rngm,[x])|_=>none
 |.next g true=>some (.nxt,[g])|_=>none
section
variable{P:Program}{B:Base}{C D:Cx}{h:aA}{w w':World}{G:Gam}
theorem tZ(d:Inv B C h w){v u:AV}{x:Value}{c:aA}(a:frz h v=some (u,c))(e:Rel C v x):∃D,C.Le D/\Inv B D c w/\Rel (Cx.pure D.im) u x/\D.bl=C.bl/\D.ar=C.ar:=by
 unfold frz at a;cases b:view h v with
 |none=>simp[b]at a|some f=>
  simp only[b,fC,aT,dF]at a;obtain⟨rfl,rfl⟩:=a;obtain⟨D,k1,k2,k3,k4,k5⟩:=EE (owns v) d;exact⟨D,k1,k2,ZT d k1.im v f x k5 b e,k3,k4⟩
theorem zt0(d:Inv B C h w){v u:AV}{x:Value}{c:aA}(a:EF h v=some (u,c))(e:Rel C v x):∃D,C.Le D/\Inv B D c w/\Rel (Cx.pure D.im) u x/\D.bl=C.bl/\D.ar=C.ar:=by
 unfold EF at a;cases b:gB h v with
 |none=>simp[b]at a|some f=>
  simp only[b,fC,aT,dF]at a;obtain⟨rfl,rfl⟩:=a;obtain⟨D,k1,k2,k3,k4,k5⟩:=EE (owns v) d;exact⟨D,k1,k2,ZS d k1.im v f x k5 b e,k3,k4⟩
theorem zt1(f:Inv B C h w){a g:List AV}{d:List Value}{e:aA}(b:yB h a=some (g,e))(i:RelL C a d):∃D,C.Le D/\Inv B D e w/\RelL (Cx.pure D.im) g d/\D.bl=C.bl/\D.ar=C.ar:=by
 unfold yB at b;cases c:bU h a with
 |none=>simp[c]at b|some j=>
  simp only[c,fC,aT,dF]at b;obtain⟨rfl,rfl⟩:=b;obtain⟨D,k1,k2,k3,k4,k5⟩:=EE (dX a) f;exact⟨D,k1,k2,FV f k1.im a j d k5 c i,k3,k4⟩
theorem yz9(f:Inv B C h w){a g:List AV}{d:List Value}{e:aA}(b:PT h a=some (g,e))(i:RelL C a d):∃D,C.Le D/\Inv B D e w/\RelL (Cx.pure D.im) g d/\D.bl=C.bl/\D.ar=C.ar:=by
 unfold PT at b;cases c:rB h a with
 |none=>simp[c]at b|some j=>
  simp only[c,fC,aT,dF]at b;obtain⟨rfl,rfl⟩:=b;obtain⟨D,k1,k2,k3,k4,k5⟩:=EE (dX a) f;exact⟨D,k1,k2,LN f k1.im a j d k5 c i,k3,k4⟩
theorem xb4{a:AV}{x:Value}(h:Rel C a x)(b:bE a=true):x.oneCell'=true:=by cases h<;>first|rfl|(simp[bE]at b)
theorem FD{a:List AV}{d:List Value}(h:RelL C a d)(e:a.all bE=true):∀x∈d,x.oneCell'=true:=by
 intro x g;obtain⟨i,b⟩:=tO.1 g;have c:i<a.length:=by rw[h.1];exact(aV.1 b).1
 have f:a[i]?=some a[i]:=by simp[c]
 exact xb4 (h.2 i _ x f b) (gV.1 e _ (HV c))
theorem uH:∀(d b:List AV)(a:Nat),a+d.length<=b.length->bK b a d=b.take a++d++b.drop (a+d.length)
 |[],b,a,_=>by simp[bK]|c::d,b,a,e=>by
  simp only[hJ]at e;rw[bK,uH d (b.set a c) (a+1) (by simp;omega)];have f:a<b.length:=by omega
  rw[xO,List.take_set_of_le (dA _),jI f];rw[show a+1+d.length=a+(c::d).length by rw[hJ];omega];rw[List.drop_set_of_lt (by rw[hJ];omega)];simp
theorem XX{b:List AV}{d:List Value}{c:List AV}{e:List Value}(h:RelL C b d)(k:RelL C c e)(a:Nat):RelL C (b.take a++c++b.drop (a+c.length)) (d.take a++e++d.drop (a+e.length)):=by rw[<-k.1];exact((h.take a).append k).append (h.drop _)
theorem UW{b:Nat}{d a:Array Value}{e:TypeId}{c:Nat×Nat}(f:w.heap[b]?=some (.cells d e c)):(w.setRow b a).heap[b]?=some (.cells a e c):=setRow_heap w b d a e c f
theorem RowAt.thaw{r:RowAt}{a:Array Value}{v:World}(b:v.heap[r.block]?=some (.cells a r.elem r.fz)){j:Nat}(c:j<r.cap*r.size):v.frozen? ⟨r.block,j,none⟩=false:=by
 unfold World.frozen?;rw[b];unfold RowAt.fz;cases r.cv<;>simp<;>omega
theorem TU{b:Nat}{t:TypeId}{f:Nat×Nat}:∀(d:List Value)(o:Nat)(a:Array Value)(v:World),v.heap[b]?=some (.cells a t f)->o+d.length<=a.size->v.setCells b o d=v.setRow b (a.toList.take o++d++a.toList.drop (o+d.length)).toArray
 |[],o,a,v,c,_=>by
  simp only[World.setCells,dY,gQ,Nat.add_zero,oZ,Array.toArray_toList];rw[setRow_self v b a t f c]|x::r,o,a,v,c,g=>by
  have i:=TU r (o+1) (a.setIfInBounds o x) (v.setRow b (a.setIfInBounds o x)) (setRow_heap v b a _ t _ c) (by simp at g⊢;omega);simp only[World.setCells];rw[setCell_eq_setRow v b o a t f x c,i,setRow_setRow];congr 2;have e:=list_seg_step a.toList o x r (by simp at g⊢;omega);simpa[Array.toList_setIfInBounds]using e
theorem zM0{r:RowAt}{b:Array Value}(c:w.heap[r.block]?=some (.cells b r.elem r.fz))(g:b.size=r.cap*r.size)(o:Nat)(a:List Value)(f:o+a.length<=b.size)(d:∀v∈a,v.oneCell'=true):(storeCells ⟨r.block,o,none⟩ a 0).run P w=.ok () (w.setRow r.block (b.toList.take o++a++b.toList.drop (o+a.length)).toArray):=by
 have:=run_storeCells_cells (P:=P) r.block o a 0 w (fun j e=>by simp[World.cell?,c];omega) (fun j e=>RowAt.thaw c (by simp;omega)) d;rw[this,Nat.add_zero,TU a o b w c f]
structure Keep(B:Nat)(w w':World):Prop where
 below:Below B w w'
 sys:∀(k:Nat)c,w.heap[k]?=some (.deferred c)->w'.heap[k]?=some (.deferred c)
theorem Keep.refl(B:Nat)(w:World):Keep B w w:=⟨Below.refl _ _,fun _ _ h=>h⟩
theorem Keep.trans{n:Nat}{a b c:World}(h:Keep n a b)(k:Keep n b c):Keep n a c:=⟨h.below.trans k.below,fun i o x=>k.sys i o (h.sys i o x)⟩
theorem Keep.grown{n:Nat}{w w':World}(h:Below w.heap.size w w')(a:n<=w.heap.size):Keep n w w':=⟨h.mono a,fun k _ x=>(h.block k (gY x)).trans x⟩
theorem Keep.setCell{n:Nat}{a w:World}(h:Keep n a w){p:Addr}(d:n<=p.block)(u:Value):Keep n a (w.setCell p u):=⟨h.below.setCell d u,fun k c x=>by
 have x:=h.sys k c x;by_cases e:k=p.block
 ·subst e;obtain⟨b,f⟩:=nE.1 x;unfold World.setCell;rw[Array.getElem?_eq_getElem (by simpa using b),Array.getElem_modify_self,f]
 ·exact(Below.heap_setCell w p u k e).trans x⟩
theorem below_setRow{b:Nat}(i:B<=b)(a:Array Value):Keep B w (w.setRow b a):=⟨⟨rfl,rfl,rfl,by simp,fun k d=>setRow_other w b k a (by omega)⟩,fun k c d=>by
 by_cases e:k=b
 ·subst e;obtain⟨f,g⟩:=nE.1 d;unfold World.setRow;rw[Array.getElem?_eq_getElem (by simpa using f),Array.getElem_modify_self,g]
 ·rw[setRow_other w b k a e];exact d⟩
def Left(_:Program)(B:Base)(C:Cx)(w:World)(r:Result Next)(v:AV)(a:aA):Prop:=∃n u D w',r=.ok n w'/\(n=.value u\/(n=.skip/\u=undef))/\C.Le D/\Inv B D a w'/\Rel D v u/\Keep B w w'
theorem jU(b:Inv B C h w)(a:Below w.heap.size w w'):Keep B w w':=.grown a b.hB
theorem xr0(d:Inv B C h w){t:TypeId}{g l a:Nat}(L:eI P t=some g){v:AV}{x y:Value}(O:Rel C (.ptr l a) x)(Q:Rel C v y){q:List AV}{tg:Option TypeId}(A:h[l]?=some (.cellsT tg q))(E:v.cells.length=g)(W:0<g)(K:v.cells.all bE=true)(X:a+g<=q.length):∃w',(Instr.storeAt t x y).run P w=.ok () w'/\Inv B C (h.set l (.cellsT tg (bK q a v.cells))) w'/\Keep B w w':=by
 have n:=IM Q (by intro e;rw[e]at E;simp at E;omega);cases O with|ptr _ _ b j=>
  obtain⟨c,i,e,r,s,z,h4,h5,H⟩:=d.ok l _ A;rw[j]at r;cases r;have I:=h5.1;simp at I;have N:=n.1;simp at N;have F:=run_storeCells_at P b a e y.cells.toList 0 i w z (by simp;omega) (FD n K);simp only[Nat.add_zero]at F;refine⟨w.setRow b (i.toList.take a++y.cells.toList++i.toList.drop (a+y.cells.toList.length)).toArray,?_,?_,below_setRow s _⟩
  ·simp only[Instr.storeAt,Instr.sureAddr,Sem.run_bind,Sem.run_pure,Result.andThen_ok,storeVar,jR L];rw[if_neg (by simp;omega)];simpa using F
  ·refine d.turn A (.refl C) (by simp) (fun c m _=>⟨setRow_other w b c _ (fun e=>m (by simp[bJ,j,e])),fun _=>rfl⟩) (fun c o u p=>?_) d.one ?_ (fun c m=>.inl m) d.fr (fun k S tg U V T wr f v M=>?_)
   ·have J:c≠b:=fun e=>by subst e;rw[h4 o]at p;cases p
    rw[cell_setRow_other w b _ ⟨c,o,none⟩ J];exact d.im _ _ _ p
   ·refine⟨b,_,e,j,s,UW z,h4,?_,H⟩;rw[uH _ _ _ (by omega)];simpa using XX h5 n a
   ·rw[iY]at f;split at f
    ·split at f;·cases f
     ·cases f
    ·exact d.fv k S tg U V T wr f v M
theorem TH(d:Inv B C h w){r s:Bool}{tg x:Option TypeId}{l n u b:Nat}{j t:List (List AV)}{wr y:Bool}(f:h[l]?=some (.arrX r tg n b j wr))(k:Nat)(i:Bool)(p:Option TypeId)(o c:Nat)(m:List (List AV))(q:Bool)(a:(h.set l (.arrX s x u b t y))[k]?=some (.arrX i p o c m q))(v:Nat)(g:c<v):C.ar k v=none:=by
 rw[iY]at a;by_cases e:l=k
 ·subst e;rw[if_pos rfl,if_pos (aV.1 f).1]at a;injection a with a;injection a with E A z a;subst a;exact d.fv l _ tg n b j wr f v g
 ·rw[if_neg e]at a;exact d.fv k i p o c m q a v g
theorem zs6(a:List (List AV)){i:Nat}{b:List AV}(h:a[i]?=some b):a.flatten=(a.take i).flatten++b++(a.drop (i+1)).flatten:=by
 have c:i<a.length:=(aV.1 h).1;have d:a[i]=b:=(aV.1 h).2;conv=>lhs;rw[<-oZ i a,xN c]
 simp[d]
theorem yz5(a:List (List AV)){i:Nat}{e b:List AV}(h:a[i]?=some e):(a.set i b).flatten=(a.take i).flatten++b++(a.drop (i+1)).flatten:=by
 have d:i<a.length:=(aV.1 h).1;have c:(a.set i b)[i]?=some b:=by rw[jI d]
 rw[zs6 _ c,List.take_set_of_le (dA _),List.drop_set_of_lt (by omega)]
theorem ZF(f:Inv B C h w){ne:Bool}{t:TypeId}{size l I s i a:Nat}(S:eI P t=some size){u:AV}{x y:Value}(c:Rel C (.eptr l s i a) x)(V:Rel (C.at ne) u y){b:List (List AV)}{tg:Option TypeId}(p:h[l]?=some (.arrX ne tg I s b true)){row:List AV}(m:b[i]?=some row)(z:u.cells.length=size)(W:0<size)(A:u.cells.all bE=true)(Z:a+size<=row.length):∃w',(Instr.storeAt t x y).run P w=.ok () w'/\Inv B C (h.set l (.arrX ne tg I s (b.set i (bK row a u.cells)) true)) w'/\Keep B w w':=by
 have k:=IM V (by intro e;rw[e]at z;simp at z;omega);cases c with|eptr _ _ _ _ r j=>
  rcases f.ok l _ p with⟨k1,_⟩|⟨r',d,k1,k2,k3,k4,k5,k6,k7,k8,H,k9,k10,k11⟩;·rw[j]at k1;cases k1
  ·rw[j]at k1;injection k1 with k1;cases k1;have L:i<b.length:=(aV.1 m).1;have Y:=k5 row (fB m);have N:(i+1)*r.size<=b.length*r.size:=kQ _ L;have X:b.length*r.size<=d.size:=by rw[k7];exact kQ _ k3
   rw[gR]at N;have U:=k.1;simp at U;have T:=zM0 (P:=P) k6 k7 (i*r.size+a) y.cells.toList (by simp;omega) (FD k A);have E:(b.take i).flatten.length=i*r.size:=by rw[mH (n:=r.size) _ (fun x c=>k5 x (vF c)),lY,vH (by omega)]
   have v:=mH b k5;have Q:(b.set i (bK row a u.cells)).flatten=bK b.flatten (i*r.size+a) u.cells:=by
    have J:((b.take i).flatten++row++(b.drop (i+1)).flatten).take (i*r.size+a)=(b.take i).flatten++row.take a:=by
     rw[iN,AE,pA (by omega),E,IA,AE,show a-row.length=0 by omega];simp
    have K:((b.take i).flatten++row++(b.drop (i+1)).flatten).drop (i*r.size+a+u.cells.length)=row.drop (a+u.cells.length)++(b.drop (i+1)).flatten:=by
     rw[iN,xM,NW (by omega),E,show i*r.size+a+u.cells.length-i*r.size=a+u.cells.length by omega,xM,show a+u.cells.length-row.length=0 by omega];simp
    rw[yz5 b m,uH _ _ _ (by omega),uH _ _ _ (by rw[v];omega),zs6 b m,J,K];simp only[iN]
   refine⟨w.setRow r.block (d.toList.take (i*r.size+a)++y.cells.toList++d.toList.drop (i*r.size+a+y.cells.toList.length)).toArray,?_,?_,below_setRow k2 _⟩
   ·simp only[Instr.storeAt,Instr.sureAddr,Sem.run_bind,Sem.run_pure,Result.andThen_ok,storeVar,jR S];rw[if_neg (by simp;omega)];simpa using T
   ·have M:(bK row a u.cells).length=r.size:=by rw[uH _ _ _ (by omega)];simp;omega
    have F:(d.toList.take (i*r.size+a)++y.cells.toList++d.toList.drop (i*r.size+a+y.cells.toList.length)).take (b.length*r.size)=(d.toList.take (b.length*r.size)).take (i*r.size+a)++y.cells.toList++(d.toList.take (b.length*r.size)).drop (i*r.size+a+y.cells.toList.length):=by
     have a1:y.cells.toList.length=size:=by simp;omega
     rw[AF,vH (by omega),AE,pA (by simp;omega)];congr 1;rw[List.drop_take];congr 1;simp;omega
    refine f.turn p (.refl C) (by simp) (fun g n _=>⟨setRow_other w r.block g _ (fun e=>n (by simp[bJ,j,e])),fun _=>rfl⟩) (fun g o u' q=>?_) f.one ?_ (fun g n=>.inl n) f.fr (TH f p)
    ·have O:g≠r.block:=fun e=>by subst e;rw[k9 rfl o]at q;cases q
     rw[cell_setRow_other w r.block _ ⟨g,o,none⟩ O];exact f.im _ _ _ q
    ·refine .inr ⟨r,_,j,k2,by simpa using k3,k4,fun x c=>?_,UW k6,?_,?_,fun x c=>?_,k9,(fun e=>by cases e),k11.1,k11.2.len (by simp)⟩
     ·rcases HY c with c|rfl;·exact k5 x c
      ·exact M
     ·simp;omega
     ·rw[Q,uH _ _ _ (by rw[v];omega),rL];simp only;rw[F];exact XX k8 k (i*r.size+a)
     ·rw[rL]at c;simp only at c;rw[F]at c;simp only[kD]at c;rcases c with(c|c)|c;·exact H x (vF c)
      ·exact FD k A x c
      ·exact H x (DQ c)
theorem yU9{b:TypeId}{e:EK}(h:ES P b=some e):∃d,P.underlying b=some d/\(match e with|.s=>d=.string|.i=>∃q,d=.int q|.b=>d=.bool):=by
 unfold ES at h;split at h<;>(first|cases h|skip);·rename_i a;exact⟨_,a,rfl⟩
 ·rename_i q a;exact⟨_,a,q,rfl⟩
 ·rename_i a;exact⟨_,a,rfl⟩
theorem xn0{e:EK}{k c:AV}{x y:Value}{n:Nat}(a:Rel C k x)(b:Rel C c y)(h:vU e k c=some true):Instr.sameBits n y x=true:=by
 cases e<;>cases k<;>cases c<;>simp only[vU]at h<;>(first|cases h|skip);·rw[jJ a,jJ b];injection h with h;simp at h;subst h;simp[Instr.sameBits]
 ·split at h
  ·rename_i d;injection h with h;simp at h;subst h d;rw[fF a,fF b];simp[Instr.sameBits]
  ·cases h
 ·rw[fM a,fM b];injection h with h;simp at h;subst h;simp only[Instr.sameBits];rw[beq_toListBytes];simp
theorem zC6{e:EK}{d:TypeDesc}(E:match e with|.s=>d=.string|.i=>∃q,d=.int q|.b=>d=.bool){k v:AV}{x y:Value}(r:Rel C k x)(K:Rel C v y):∀(o:List (AV×AV))(l:List MapEntry)(n:Nat)(s:List (AV×AV)),o.length=l.length->(∀(i:Nat)k v m,o[i]?=some (k,v)->l[i]?=some m->Rel C k m.key/\Rel C v m.val)->vW e k v o=some s->(∃i u key,Instr.findNow d x l n=some (some (n+i,u))/\(l[i]?).map (·.key)=some key/\(∀n,Instr.sameBits n key x=true)/\i<l.length/\s.length=l.length/\(∀(j:Nat)k v m,s[j]?=some (k,v)->(l.modify i fun m=>{m with key:=x,val:=y})[j]?=some m->Rel C k m.key/\Rel C v m.val))\/(Instr.findNow d x l n=some none/\s=o++[(k,v)])
 |[],[],n,s,_,_,h=>by simp[vW]at h;subst h;exact .inr ⟨rfl,rfl⟩|[],_::_,_,_,t,_,_=>by simp at t|_::_,[],_,_,t,_,_=>by simp at t|(L,U)::o,m::l,n,s,t,I,h=>by
  obtain⟨p,T⟩:=I 0 L U m rfl rfl;have J:∀(i:Nat)k v m,o[i]?=some (k,v)->l[i]?=some m->Rel C k m.key/\Rel C v m.val:=fun i k v m f g=>I (i+1) k v m (by simpa using f) (by simpa using g);simp only[vW]at h;split at h
  ·rename_i c;cases h;have:=QD E r p c;refine .inl ⟨0,m.val,m.key,by simp[Instr.findNow,this],rfl,fun n=>xn0 r p c,by simp,by simpa using t,fun j a b q f g=>?_⟩;cases j with
   |zero=>
    simp at f g;obtain⟨rfl,rfl⟩:=f;subst g;refine⟨?_,K⟩;have:x=m.key:=by
     cases e<;>cases k<;>cases L<;>simp only[vU]at c<;>(first|cases c|skip);·rw[jJ r,jJ p];injection c with c;simp at c;rw[c]
     ·split at c;·rename_i Q;injection c with c;simp at c;rw[fF r,fF p,c,Q]
      ·cases c
     ·rw[fM r,fM p];injection c with c;simp at c;rw[c]
    rw[this];exact p|succ j=>simp at f g;exact J j a b q f g
  ·rename_i c;have H:=QD E r p c;cases F:vW e k v o with
   |none=>simp[F]at h|some S=>
    simp only[F,fC,aT]at h;subst h;rcases zC6 E r K o l (n+1) S (by simpa using t) J F with⟨i,u,key,z,A,M,V,N,O⟩|⟨z,A⟩
    ·refine .inl ⟨i+1,u,key,?_,by simpa using A,M,by simp;omega,by simp[N],fun j a b q f g=>?_⟩;·simp only[Instr.findNow,H];rw[z];congr 3;omega
     ·cases j with
      |zero=>simp at f g;obtain⟨rfl,rfl⟩:=f;subst g;exact⟨p,T⟩|succ j=>simp at f g;exact O j a b q f g
    ·exact .inr ⟨by simp only[Instr.findNow,H];exact z,by simp[A]⟩
  ·cases h
end
end Go.Proofs.YtdebajodkallbaaGreatDoor
