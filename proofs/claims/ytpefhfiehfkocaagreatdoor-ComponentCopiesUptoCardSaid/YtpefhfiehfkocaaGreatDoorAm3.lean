/- New places,and places that turn -/
import Derived.Test.YtpefhfiehfkocaaGreatDoorAm1
import Derived.Deep.AppendSrc
namespace Go.Proofs.YtpefhfiehfkocaaGreatDoor
open Go.RowKit
section
variable{P:Program}{B:Base}{C D:Cx}{h:aA}{w w':World}
structure Ext(w:World)(C D:Cx):Prop where
 le:C.Le D
 im:∀b o,b<w.heap.size->D.im b o=C.im b o
theorem Ext.refl(w:World)(C:Cx):Ext w C C:=⟨.refl C,fun _ _ _=>rfl⟩
theorem mY(h:∀b o u,C.im b o=some u->D.im b o=some u):(Cx.pure C.im).Le (Cx.pure D.im):=⟨h,(fun _ _ x=>by cases x),(fun _ _ _ x=>by cases x)⟩
theorem BlkOK.ext{l:Nat}{t:Blk}(q:BlkOK B C w l t)(a:Ext w C D)(N:Below w.heap.size w w'):BlkOK B D w' l t:=by
 have p:∀b o,w.heap[b]?=some o->w'.heap[b]?=some o:=fun b o A=>(N.block b (fM A)).trans A;have E:=mY a.le.im;cases t with
 |cellsT tg vs=>
  obtain⟨b,z,e,c,d,f,h4,h5,g⟩:=q;exact⟨b,z,e,a.le.bl _ _ c,d,p _ _ f,fun o=>by rw[a.im b o (fM f)];exact h4 o,h5.mono a.le,g⟩|arrX U tg sz a1 Z wr=>
  rcases q with⟨c,d⟩|⟨r,z,c,d,f,h4,h5,g,J,K,L,M,H,I⟩;·exact .inl ⟨a.le.ar _ _ _ c,d⟩
  ·refine .inr ⟨r,z,a.le.ar _ _ _ c,d,f,h4,h5,p _ _ g,J,K.mono (a.le.at U),L,fun e o=>by rw[a.im _ o (fM g)];exact M e o,fun e j u O Q=>a.le.im _ _ _ (H e j u O Q),I⟩|map W=>
  obtain⟨b,T,F,c,d,f,h4,h5,g⟩:=q;exact⟨b,T,F,a.le.bl _ _ c,d,p _ _ f,h4,fun i k v m x y=>⟨(h5 i k v m x y).1.mono E,(h5 i k v m x y).2.mono E⟩,g⟩|iter s Y=>
  obtain⟨b,c,d,f⟩:=q;exact⟨b,a.le.bl _ _ c,d,p _ _ f⟩|lp V x=>
  obtain⟨b,r,c,d,f,h4⟩:=q;exact⟨b,r,a.le.bl _ _ c,d,f,p _ _ h4⟩|mit m n seen X=>
  obtain⟨b,S,c,d,f,h4⟩:=q;exact⟨b,S,a.le.bl _ _ c,d,p _ _ f,h4.mono a.le⟩|dead=>trivial
theorem qY{l:Nat}{f:Blk}(d:BlkOK B C w l f)(c:C.Le D):aU D l f=aU C l f:=by cases f with
 |cellsT tg E=>
  obtain⟨b,g,e,a,_⟩:=d;simp[aU,a,c.bl _ _ a]|arrX u tg z A y F=>
  rcases d with⟨a,o⟩|⟨r,g,a,_⟩;·simp[aU,a,c.ar _ _ _ a]
  ·simp[aU,a,c.ar _ _ _ a]|map k=>
  obtain⟨b,t,j,a,_⟩:=d;simp[aU,a,c.bl _ _ a]|iter s v=>
  obtain⟨b,a,_⟩:=d;simp[aU,a,c.bl _ _ a]|lp i x=>
  obtain⟨b,r,a,_⟩:=d;simp[aU,a,c.bl _ _ a]|mit m n seen p=>
  obtain⟨b,q,a,_⟩:=d;simp[aU,a,c.bl _ _ a]|dead=>rfl
theorem DN{l b:Nat}{i:Blk}(f:BlkOK B C w l i)(a:aU C l i=some b):b<w.heap.size:=by cases i with
 |cellsT tg I=>
  obtain⟨g,j,e,c,_,d,_⟩:=f;simp only[aU,c,aE]at a;subst a;exact fM d|arrX z tg F H E J=>
  rcases f with⟨c,t⟩|⟨r,j,c,_,_,_,_,k,_⟩;·simp[aU,c]at a
  ·simp only[aU,c,aE]at a;subst a;exact fM k|map q=>
  obtain⟨g,y,p,c,_,d,_⟩:=f;simp only[aU,c,aE]at a;subst a;exact fM d|iter s A=>
  obtain⟨g,c,_,d⟩:=f;simp only[aU,c,aE]at a;subst a;exact fM d|lp o x=>
  obtain⟨g,r,c,_,_,d⟩:=f;simp only[aU,c,aE]at a;subst a;exact fM d|mit m n seen u=>
  obtain⟨g,v,c,_,d,_⟩:=f;simp only[aU,c,aE]at a;subst a;exact fM d|dead=>simp[aU]at a
theorem Inv.extend(a:Inv B C h w)(c:Ext w C D)(e:Below w.heap.size w w')(y:∀b o u,D.im b o=some u->w'.cell? ⟨b,o,none⟩=some u)(E:∀b o u,D.im b o=some u->u.oneCell'=true)(s:∀l,h.length<=l->D.bl l=none/\∀v,D.ar l v=none)(t:∀(l:Nat)H tg J q I K,h[l]?=some (.arrX H tg J q I K)->∀v,q<v->D.ar l v=none):Inv B D h w':=by
 refine⟨y,E,fun l d A=>(a.ok l d A).ext c e,fun l p d f b i j m h4=>?_,s,t,oJ a.hB e.size,fun b o u n F=>a.low b o u n (by rw[<-c.im b o (sP n a.hB)];exact F),fun g r x=>(a.gl g r x).mono (mY c.le.im),a.tb.mono (fun k _ z=>e.block k z),a.rcl,a.cle.trans c.le⟩;rw[qY (a.ok l d i) c.le]at m;rw[qY (a.ok p f j) c.le]at h4;exact a.inj l p d f b i j m h4
theorem Inv.add(a:Inv B C h w)(d:Ext w C D)(F:Below w.heap.size w w')(S:∀b o u,D.im b o=some u->w'.cell? ⟨b,o,none⟩=some u)(U:∀b o u,D.im b o=some u->u.oneCell'=true){blk:Blk}(T:BlkOK B D w' h.length blk)(J:∀b,aU D h.length blk=some b->w.heap.size<=b)(N:∀l,l≠h.length->D.bl l=C.bl l)(H:∀l v,l≠h.length->D.ar l v=C.ar l v)(O:∀s tg z n y A,blk=.arrX s tg z n y A->∀v,n<v->D.ar h.length v=none):Inv B D (h++[blk]) w':=by
 have t:∀(l:Nat)k,(h++[blk])[l]?=some k->(l<h.length/\h[l]?=some k)\/(l=h.length/\k=blk):=by
  intro l k c;by_cases q:l<h.length;·rw[aX q]at c;exact .inl ⟨q,c⟩
  ·rw[dY (by omega)]at c;have:l-h.length=0:=by
    rcases DF (l-h.length)with e|e;·exact e
    ·rw[lX (by simp;omega)]at c;cases c
   rw[this]at c;simp at c;exact .inr ⟨by omega,c.symm⟩
 refine⟨S,U,fun l k c=>?_,fun l m k j b E M i h4=>?_,fun l q=>?_,fun l s tg z n y A c v K=>?_,oJ a.hB F.size,fun b o u I V=>a.low b o u I (by rw[<-d.im b o (sP I a.hB)];exact V),fun g r Q=>(a.gl g r Q).mono (mY d.le.im),a.tb.mono (fun k _ c=>F.block k c),fun l x W=>by have:=a.rcl l x W;simp;omega,a.cle.trans d.le⟩
 ·rcases t l k c with⟨_,E⟩|⟨rfl,rfl⟩;·exact(a.ok l k E).ext d F
  ·exact T
 ·rcases t l k E with⟨L,f⟩|⟨rfl,rfl⟩<;>rcases t m j M with⟨X,p⟩|⟨rfl,rfl⟩
  ·rw[qY (a.ok l k f) d.le]at i;rw[qY (a.ok m j p) d.le]at h4;exact a.inj l m k j b f p i h4
  ·rw[qY (a.ok l k f) d.le]at i;have:=DN (a.ok l k f) i;have:=J b h4;omega
  ·rw[qY (a.ok m j p) d.le]at h4;have:=DN (a.ok m j p) h4;have:=J b i;omega
  ·rfl
 ·simp at q;have:=a.fr l (by omega);exact⟨by rw[N l (by omega)];exact this.1,fun v=>by rw[H l v (by omega)];exact this.2 v⟩
 ·rcases t l _ c with⟨L,f⟩|⟨rfl,e⟩;·rw[H l v (by omega)];exact a.fv l s tg z n y A f v K
  ·exact O s tg z n y A e.symm v K
def Cx.addBl(C:Cx)(l b:Nat):Cx:={C with bl:=fun k=>if k=l then some b else C.bl k}
def Cx.addAr(C:Cx)(l a:Nat)(r:Option RowAt):Cx:={C with ar:=fun k v=>if k=l/\v=a then some r else C.ar k v}
theorem KE{l:Nat}(b:Nat)(a:C.bl l=none):Ext w C (C.addBl l b):=⟨⟨fun _ _ _ x=>x,fun k c x=>by
 simp only[Cx.addBl];split;·rename_i e;subst e;rw[a]at x;cases x
 ·exact x,fun _ _ _ x=>x⟩,fun _ _ _=>rfl⟩
theorem KD{l a:Nat}(r:Option RowAt)(b:C.ar l a=none):Ext w C (C.addAr l a r):=⟨⟨fun _ _ _ x=>x,fun _ _ x=>x,fun k v c x=>by
 simp only[Cx.addAr];split;·rename_i e;obtain⟨rfl,rfl⟩:=e;rw[b]at x;cases x
 ·exact x⟩,fun _ _ _=>rfl⟩
theorem gY(w:World)(o:Obj):Below w.heap.size w (w.alloc o):=(Below.refl _ _).alloc (bP _) o
theorem WC(w:World):Below w.heap.size w w.drew:=(Below.refl _ _).drew
theorem vA(c:Inv B C h w)(a:Below w.heap.size w w'):∀b o u,C.im b o=some u->w'.cell? ⟨b,o,none⟩=some u:=(c.grow a).im
theorem oN(w:World)(o:Obj):(w.alloc o).heap[w.heap.size]?=some o:=heap_alloc_new w o
theorem VN(a:Inv B C h w){g:List AV}{f:Array Value}(n:RelL C g f.toList)(e:TypeId){tg:Option TypeId}(p:BN tg e):Inv B (C.addBl h.length w.heap.size) (h++[.cellsT tg g]) (w.alloc (.cells f e))/\Rel (C.addBl h.length w.heap.size) (.ptr h.length 0) (.pointer (some ⟨w.heap.size,0,none⟩))/\C.Le (C.addBl h.length w.heap.size):=by
 have m:=(a.fr h.length (bP _)).1;have d:=KE (w:=w) w.heap.size m;have c:(C.addBl h.length w.heap.size).bl h.length=some w.heap.size:=by simp[Cx.addBl]
 refine⟨a.add d (gY w _) (fun b o u x=>vA a (gY w _) b o u x) (fun b o u x=>a.one b o u x) (blk:=.cellsT tg g) ⟨w.heap.size,f,e,c,a.hB,oN w _,fun o=>?_,n.mono d.le,p⟩ (fun b k=>?_) (fun l j=>by simp[Cx.addBl,j]) (fun l v j=>rfl) (fun q tg s t r y e=>by cases e),.ptr _ _ _ c,d.le⟩;·cases i:C.im w.heap.size o with
  |none=>exact i|some u=>have:=rA (a.im _ _ _ i);omega
 ·simp only[aU,c,aE]at k;omega
theorem zm7(c:Inv B C h w){b:List AV}{a:Array Value}(d:RelL C b a.toList)(e:TypeId):Inv B (C.addBl h.length w.heap.size) (h++[.cells b]) (w.alloc (.cells a e))/\Rel (C.addBl h.length w.heap.size) (.ptr h.length 0) (.pointer (some ⟨w.heap.size,0,none⟩))/\C.Le (C.addBl h.length w.heap.size):=VN c d e (zf8 e)
theorem yo1(a:Inv B C h w):Inv B (C.addBl h.length w.heap.size) (h++[.map []]) (w.alloc (.map #[] 0))/\Rel (C.addBl h.length w.heap.size) (.map h.length) (.map (some w.heap.size))/\C.Le (C.addBl h.length w.heap.size):=by
 have j:=(a.fr h.length (bP _)).1;have d:=KE (w:=w) w.heap.size j;have c:(C.addBl h.length w.heap.size).bl h.length=some w.heap.size:=by simp[Cx.addBl]
 refine⟨a.add d (gY w _) (fun b o u x=>vA a (gY w _) b o u x) (fun b o u x=>a.one b o u x) (blk:=.map []) ⟨w.heap.size,#[],0,c,a.hB,oN w _,rfl,(fun i k v m x=>by simp at x),rfl,fun i m x=>by simp at x⟩ (fun b g=>?_) (fun l f=>by simp[Cx.addBl,f]) (fun l v f=>rfl) (fun n tg q r p s e=>by cases e),.map _ _ c,d.le⟩;simp only[aU,c,aE]at g;omega
theorem yo0(a:Inv B C h w)(s:List UInt8):Inv B (C.addBl h.length w.heap.size) (h++[.iter s 0]) (w.alloc (.stringIter ⟨s.toArray⟩ 0))/\Rel (C.addBl h.length w.heap.size) (.ptr h.length 0) (.pointer (some ⟨w.heap.size,0,none⟩))/\C.Le (C.addBl h.length w.heap.size):=by
 have i:=(a.fr h.length (bP _)).1;have d:=KE (w:=w) w.heap.size i;have c:(C.addBl h.length w.heap.size).bl h.length=some w.heap.size:=by simp[Cx.addBl]
 refine⟨a.add d (gY w _) (fun b o u x=>vA a (gY w _) b o u x) (fun b o u x=>a.one b o u x) (blk:=.iter s 0) ⟨w.heap.size,c,a.hB,oN w _⟩ (fun b g=>?_) (fun l f=>by simp[Cx.addBl,f]) (fun l v f=>rfl) (fun j tg m n k p e=>by cases e),.ptr _ _ _ c,d.le⟩;simp only[aU,c,aE]at g;omega
theorem zm9(a:Inv B C h w){m mo:Option Nat}(n f:Nat)(j:mitB C m mo):Inv B (C.addBl h.length w.heap.size) (h++[.mit m n [] f]) (w.alloc (.mapIter mo n #[] f))/\Rel (C.addBl h.length w.heap.size) (.ptr h.length 0) (.pointer (some ⟨w.heap.size,0,none⟩))/\C.Le (C.addBl h.length w.heap.size):=by
 have k:=(a.fr h.length (bP _)).1;have d:=KE (w:=w) w.heap.size k;have c:(C.addBl h.length w.heap.size).bl h.length=some w.heap.size:=by simp[Cx.addBl]
 refine⟨a.add d (gY w _) (fun b o u x=>vA a (gY w _) b o u x) (fun b o u x=>a.one b o u x) (blk:=.mit m n [] f) ⟨w.heap.size,mo,c,a.hB,oN w _,j.mono d.le⟩ (fun b i=>?_) (fun l g=>by simp[Cx.addBl,g]) (fun l v g=>rfl) (fun p tg r s q t e=>by cases e),.ptr _ _ _ c,d.le⟩;simp only[aU,c,aE]at i;omega
theorem VO(a:Inv B C h w)(tg:Option TypeId)(g:Nat):Inv B (C.addAr h.length 0 none) (h++[.arrT tg g 0 [] true]) w/\Rel (C.addAr h.length 0 none) (.own h.length 0 0) (.slice none 0 0)/\C.Le (C.addAr h.length 0 none):=by
 have k:=(a.fr h.length (bP _)).2 0;have d:=KD (w:=w) none k;have c:(C.addAr h.length 0 none).ar h.length 0=some none:=by simp[Cx.addAr]
 refine⟨a.add d (Below.refl _ _) a.im (fun b o u x=>a.one b o u x) (blk:=.arrT tg g 0 [] true) (.inl ⟨c,rfl⟩) (fun b j=>by simp[aU,c]at j) (fun l f=>rfl) (fun l v f=>by simp[Cx.addAr,f]) (fun r y t z s A e v q=>?_),.ownnil _ _ c,d.le⟩;injection e with p n m i;subst i;simp only[Cx.addAr,true_and];rw[if_neg (by omega)];exact(a.fr h.length (bP _)).2 v
theorem zn0(b:Inv B C h w)(a:Nat):Inv B (C.addAr h.length 0 none) (h++[.arr a 0 [] true]) w/\Rel (C.addAr h.length 0 none) (.own h.length 0 0) (.slice none 0 0)/\C.Le (C.addAr h.length 0 none):=VO b none a
theorem zm6(a:Inv B C h w){rows:List (List AV)}{cur:Array Value}{e:TypeId}{size cap:Nat}(c:Below w.heap.size w w'){cv:Bool}(q:w'.heap[w.heap.size]?=some (.cells cur e (RowAt.fz ⟨w.heap.size,cap,size,e,cv⟩)))(f:rows.length<=cap)(p:cap<=maxLen)(t:∀z∈rows,z.length=size)(n:cur.size=cap*size)(s:RelL (Cx.pure C.im) rows.flatten (cur.toList.take (rows.length*size)))(k:∀u∈cur.toList.take (rows.length*size),u.oneCell'=true){tg:Option TypeId}(y:tagArr tg e rows):Inv B (C.addAr h.length 0 (some ⟨w.heap.size,cap,size,e,cv⟩)) (h++[.arrT tg size 0 rows true]) w'/\Rel (C.addAr h.length 0 (some ⟨w.heap.size,cap,size,e,cv⟩)) (.own h.length 0 rows.length) (.slice (some ⟨w.heap.size,0,none⟩) rows.length cap)/\C.Le (C.addAr h.length 0 (some ⟨w.heap.size,cap,size,e,cv⟩)):=by
 have r:=(a.fr h.length (bP _)).2 0;have g:=KD (w:=w) (some ⟨w.heap.size,cap,size,e,cv⟩) r;have d:(C.addAr h.length 0 (some ⟨w.heap.size,cap,size,e,cv⟩)).ar h.length 0=some (some ⟨w.heap.size,cap,size,e,cv⟩):=by simp[Cx.addAr]
 refine⟨a.add g c (fun b o u x=>vA a c b o u x) (fun b o u x=>a.one b o u x) (blk:=.arrT tg size 0 rows true) (.inr ⟨_,cur,d,a.hB,f,p,t,q,n,s,k,fun _ o=>?_,(fun e=>by cases e),rfl,y⟩) (fun b c=>?_) (fun l i=>rfl) (fun l v i=>by simp[Cx.addAr,i]) (fun I K J L rows M e v H=>?_),.own _ _ _ ⟨w.heap.size,cap,size,e,cv⟩ d f,g.le⟩
 ·show C.im w.heap.size o=none;cases m:C.im w.heap.size o with
  |none=>rfl|some u=>have:=rA (a.im _ _ _ m);omega
 ·simp only[aU,d,aE]at c;omega
 ·injection e with F E A j;subst j;simp only[Cx.addAr,true_and];rw[if_neg (by omega)];exact(a.fr h.length (bP _)).2 v
theorem VM(k:Inv B C h w){a:List (List AV)}{d:Array Value}{e:TypeId}{b c:Nat}(g:Below w.heap.size w w')(m:w'.heap[w.heap.size]?=some (.cells d e (0,0)))(i:a.length<=c)(l:c<=maxLen)(o:∀q∈a,q.length=b)(j:d.size=c*b)(n:RelL (Cx.pure C.im) a.flatten (d.toList.take (a.length*b)))(f:∀u∈d.toList.take (a.length*b),u.oneCell'=true){tg:Option TypeId}(p:tagArr tg e a):Inv B (C.addAr h.length 0 (some ⟨w.heap.size,c,b,e,false⟩)) (h++[.arrT tg b 0 a true]) w'/\Rel (C.addAr h.length 0 (some ⟨w.heap.size,c,b,e,false⟩)) (.own h.length 0 a.length) (.slice (some ⟨w.heap.size,0,none⟩) a.length c)/\C.Le (C.addAr h.length 0 (some ⟨w.heap.size,c,b,e,false⟩)):=zm6 (cv:=false) k g m i l o j n f p
theorem OJ(f:Inv B C h w){rows:List (List AV)}{cur:Array Value}{e:TypeId}{size cap:Nat}(b:Below w.heap.size w w')(i:w'.heap[w.heap.size]?=some (.cells cur e (0,0)))(c:rows.length<=cap)(g:cap<=maxLen)(k:∀l∈rows,l.length=size)(d:cur.size=cap*size)(j:RelL (Cx.pure C.im) rows.flatten (cur.toList.take (rows.length*size)))(a:∀u∈cur.toList.take (rows.length*size),u.oneCell'=true):Inv B (C.addAr h.length 0 (some ⟨w.heap.size,cap,size,e,false⟩)) (h++[.arr size 0 rows true]) w'/\Rel (C.addAr h.length 0 (some ⟨w.heap.size,cap,size,e,false⟩)) (.own h.length 0 rows.length) (.slice (some ⟨w.heap.size,0,none⟩) rows.length cap)/\C.Le (C.addAr h.length 0 (some ⟨w.heap.size,cap,size,e,false⟩)):=VM f b i c g k d j a (zf7 e rows)
end
section
variable{P:Program}{B:Base}{C D:Cx}{h:aA}{w w':World}
theorem BlkOK.stay{l:Nat}{A:Blk}(t:BlkOK B C w l A)(d:C.Le D)(q:∀b,aU C l A=some b->w'.heap[b]?=w.heap[b]?/\∀o,D.im b o=C.im b o):BlkOK B D w' l A:=by
 have F:=mY d.im;cases A with
 |cellsT tg vs=>
  obtain⟨b,E,e,a,c,g,h4,h5,z⟩:=t;obtain⟨f,p⟩:=q b (by simp[aU,a]);exact⟨b,E,e,d.bl _ _ a,c,f.trans g,fun o=>by rw[p];exact h4 o,h5.mono d,z⟩|arrX U tg sz a3 Z wr=>
  rcases t with⟨a,c⟩|⟨r,E,a,c,g,h4,h5,z,K,L,M,N,I,J⟩;·exact .inl ⟨d.ar _ _ _ a,c⟩
  ·obtain⟨f,p⟩:=q r.block (by simp[aU,a]);exact .inr ⟨r,E,d.ar _ _ _ a,c,g,h4,h5,f.trans z,K,L.mono (d.at U),M,fun e o=>by rw[p];exact N e o,fun e j u O Q=>d.im _ _ _ (I e j u O Q),J⟩|map W=>
  obtain⟨b,T,H,a,c,g,h4,h5,z⟩:=t;obtain⟨f,p⟩:=q b (by simp[aU,a]);exact⟨b,T,H,d.bl _ _ a,c,f.trans g,h4,fun i k v m x y=>⟨(h5 i k v m x y).1.mono F,(h5 i k v m x y).2.mono F⟩,z⟩|iter s Y=>
  obtain⟨b,a,c,g⟩:=t;obtain⟨f,p⟩:=q b (by simp[aU,a]);exact⟨b,d.bl _ _ a,c,f.trans g⟩|lp V x=>
  obtain⟨b,r,a,c,g,h4⟩:=t;obtain⟨f,p⟩:=q b (by simp[aU,a]);exact⟨b,r,d.bl _ _ a,c,g,f.trans h4⟩|mit m n seen X=>
  obtain⟨b,S,a,c,g,h4⟩:=t;obtain⟨f,p⟩:=q b (by simp[aU,a]);exact⟨b,S,d.bl _ _ a,c,f.trans g,h4.mono d⟩|dead=>trivial
theorem zp7{n:Base}{l b:Nat}{j:Blk}(f:BlkOK n C w l j)(a:aU C l j=some b):n<=b:=by cases j with
 |cellsT tg H=>
  obtain⟨g,k,e,c,d,i,_⟩:=f;simp only[aU,c,aE]at a;subst a;exact d|arrX y tg E F A I=>
  rcases f with⟨c,d⟩|⟨r,k,c,d,_⟩;·simp[aU,c]at a
  ·simp only[aU,c,aE]at a;subst a;exact d|map q=>
  obtain⟨g,v,p,c,d,i,_⟩:=f;simp only[aU,c,aE]at a;subst a;exact d|iter s z=>
  obtain⟨g,c,d,i⟩:=f;simp only[aU,c,aE]at a;subst a;exact d|lp o x=>
  obtain⟨g,r,c,d,i⟩:=f;simp only[aU,c,aE]at a;subst a;exact d|mit m n seen t=>
  obtain⟨g,u,c,d,i⟩:=f;simp only[aU,c,aE]at a;subst a;exact d|dead=>simp[aU]at a
theorem Inv.turn(a:Inv B C h w){l:Nat}{d j:Blk}(n:h[l]?=some d)(f:C.Le D)(V:w.heap.size<=w'.heap.size)(t:∀b,aU C l d≠some b->b<w.heap.size->w'.heap[b]?=w.heap[b]?/\∀o,D.im b o=C.im b o)(N:∀b o u,D.im b o=some u->w'.cell? ⟨b,o,none⟩=some u)(U:∀b o u,D.im b o=some u->u.oneCell'=true)(T:BlkOK B D w' l j)(A:∀b,aU D l j=some b->aU C l d=some b\/w.heap.size<=b)(K:∀k,h.length<=k->D.bl k=none/\∀v,D.ar k v=none)(L:∀(k:Nat)X tg Z H Y wr,(h.set l j)[k]?=some (.arrX X tg Z H Y wr)->∀v,H<v->D.ar k v=none):Inv B D (h.set l j) w':=by
 have Q:l<h.length:=(aF.1 n).1;have get:∀(k:Nat)x,(h.set l j)[k]?=some x->(k=l/\x=j)\/(k≠l/\h[k]?=some x):=by
  intro k x c;rw[iZ]at c;by_cases e:l=k;·subst e;rw[if_pos rfl,if_pos Q]at c;injection c with c;exact .inl ⟨rfl,c.symm⟩
  ·rw[if_neg e]at c;exact .inr ⟨fun x=>e x.symm,c⟩
 refine⟨N,U,fun k x c=>?_,fun k i x p b I J m h4=>?_,fun k E=>K k (by simpa using E),L,oJ a.hB V,fun b o u F W=>a.low b o u F ?_,fun g r M=>(a.gl g r M).mono (mY f.im),a.tb.mono (fun k E O=>(t k (fun e=>by have:=zp7 (a.ok l d n) e;omega) O).1),fun l x c=>by simpa using a.rcl l x c,a.cle.trans f⟩
 ·rcases get k x c with⟨rfl,rfl⟩|⟨S,y⟩;·exact T
  ·refine(a.ok k x y).stay f fun b z=>t b (fun e=>S (a.inj k l x d b y n z e)) (DN (a.ok k x y) z)
 ·rcases get k x I with⟨rfl,rfl⟩|⟨n1,q⟩<;>rcases get i p J with⟨rfl,rfl⟩|⟨n2,s⟩;·rfl
  ·rw[qY (a.ok i p s) f]at h4;rcases A b m with e|e;·exact a.inj k i d p b n s e h4
   ·have:=DN (a.ok i p s) h4;omega
  ·rw[qY (a.ok k x q) f]at m;rcases A b h4 with e|e;·exact a.inj k i x d b q n m e
   ·have:=DN (a.ok k x q) m;omega
  ·rw[qY (a.ok k x q) f]at m;rw[qY (a.ok i p s) f]at h4;exact a.inj k i x p b q s m h4
 ·rw[<-(t b (fun e=>by have:=zp7 (a.ok l d n) e;omega) (sP F a.hB)).2 o];exact W
def Cx.withRow(C:Cx)(b n:Nat)(a:Array Value):Cx:={C with im:=fun k o=>if k=b/\o<n then a[o]? else C.im k o}
theorem yK7(a:Inv B C h w)(l:Nat):∃D,C.Le D/\Inv B D (jX h l) w/\D.bl=C.bl/\D.ar=C.ar/\(∀tg n m f p r g,h[l]?=some (.arrT tg n m f p)->C.ar l m=some (some r)->w.heap[r.block]?=some (.cells g r.elem r.fz)->∀j,j<f.length*r.size->D.im r.block j=g[j]?):=by cases d:h[l]? with
 |none=>exact⟨C,.refl C,by simpa[jX,d]using a,rfl,rfl,fun tg n m f p r g e=>by cases e⟩|some T=>cases T with
  |arrX ne tg n m f p=>cases ne with
   |true=>exact⟨C,.refl C,by simpa[jX,d]using a,rfl,rfl,fun tg n m f p r g e=>by cases e⟩|false=>
   rcases a.ok l _ d with⟨s,K⟩|⟨r,g,s,K,O,h4,h5,J,Q,h8,S,h9,c1,a1⟩
   ·refine⟨C,.refl C,?_,rfl,rfl,fun E A F z H r' U e q=>?_⟩
    ·simp only[jX,d];refine a.turn d (.refl C) (bP _) (fun _ _ _=>⟨rfl,fun _=>rfl⟩) a.im a.one (.inl ⟨s,K⟩) (fun b t=>.inl t) a.fr (fun k N E A F z H c v y=>?_);rw[iZ]at c;by_cases e:l=k
     ·subst e;rw[if_pos rfl,if_pos (aF.1 d).1]at c;injection c with c;injection c with b2 b1 a3 c;subst c;exact a.fv l _ tg n m f p d v y
     ·rw[if_neg e]at c;exact a.fv k N E A F z H c v y
    ·injection e with e;injection e with Z Y X e;subst e;rw[s]at q;cases q
   ·have c2:f.length*r.size<=g.size:=by rw[Q];exact kH _ O
    have hold:∀o u,C.im r.block o=some u->g[o]?=some u:=fun o u i=>by have:=a.im _ _ _ i;rwa[cell_of_heap J]at this
    have M:C.Le (C.withRow r.block (f.length*r.size) g):=⟨fun b o u i=>by
     simp only[Cx.withRow];split;·rename_i e;obtain⟨rfl,_⟩:=e;exact hold o u i
     ·exact i,fun _ _ x=>x,fun _ _ _ x=>x⟩;refine⟨C.withRow r.block (f.length*r.size) g,M,?_,rfl,rfl,fun E A F z H r' U e q I j L=>?_⟩
    ·simp only[jX,d];have a2:aU C l (.arrT tg n m f p)=some r.block:=by simp[aU,s]
     refine a.turn d M (bP _) (fun b t _=>⟨rfl,fun o=>?_⟩) (fun b o u i=>?_) (fun b o u i=>?_) ?_ (fun b t=>.inl t) a.fr (fun k N E A F z H c v y=>?_);·simp only[Cx.withRow];rw[if_neg (fun e=>t (by rw[a2,e.1]))]
     ·simp only[Cx.withRow]at i;split at i;·rename_i e;obtain⟨rfl,_⟩:=e;rw[cell_of_heap J];exact i
      ·exact a.im _ _ _ i
     ·simp only[Cx.withRow]at i;split at i
      ·rename_i e;refine S u (gJ (i:=o) ?_);rw[fS,if_pos e.2];simpa using i
      ·exact a.one _ _ _ i
     ·refine .inr ⟨r,g,s,K,O,h4,h5,J,Q,h8.mono (mY M.im),S,(fun e=>by cases e),fun _ j u L i=>?_,a1⟩;simp only[Cx.withRow,true_and];rw[if_pos L];exact i
     ·rw[iZ]at c;by_cases e:l=k
      ·subst e;rw[if_pos rfl,if_pos (aF.1 d).1]at c;injection c with c;injection c with b2 b1 a3 c;subst c;exact a.fv l _ tg n m f p d v y
      ·rw[if_neg e]at c;exact a.fv k N E A F z H c v y
    ·injection e with e;injection e with Z Y X e V W;subst e V W;rw[s]at q;injection q with q;cases q;rw[J]at I;injection I with I;cases I;simp only[Cx.withRow,true_and];rw[if_pos L]
  |cellsT tg vs=>exact⟨C,.refl C,by simpa[jX,d]using a,rfl,rfl,fun tg n m f p r g e=>by cases e⟩|map es=>exact⟨C,.refl C,by simpa[jX,d]using a,rfl,rfl,fun tg n m f p r g e=>by cases e⟩|iter e1 d3=>exact⟨C,.refl C,by simpa[jX,d]using a,rfl,rfl,fun tg n m f p r g e=>by cases e⟩|lp b3 x=>exact⟨C,.refl C,by simpa[jX,d]using a,rfl,rfl,fun tg n m f p r g e=>by cases e⟩|mit d1 d2 seen c3=>exact⟨C,.refl C,by simpa[jX,d]using a,rfl,rfl,fun tg n m f p r g e=>by cases e⟩|dead=>exact⟨C,.refl C,by simpa[jX,d]using a,rfl,rfl,fun tg n m f p r g e=>by cases e⟩
theorem yK6{tg:Option TypeId}{l k:Nat}{f g:Nat}{d:List (List AV)}{c:Bool}(h:aA)(a:h[k]?=some (.arrT tg f g d c)):∃i,(jX h l)[k]?=some (.arrT tg f g d i):=by
 unfold jX;split
 ·rename_i t s u r i b;rw[iZ];by_cases e:l=k
  ·subst e;rw[a]at b;injection b with b;injection b with q m j n o p;subst m j n o p;exact⟨false,by rw[if_pos rfl,if_pos (aF.1 a).1]⟩
  ·exact⟨c,by rw[if_neg e];exact a⟩
 ·exact⟨c,a⟩
def yn4(C D:Cx)(h:aA)(w:World)(d:List Nat):Prop:=∀l∈d,∀tg e c b f r a,h[l]?=some (.arrT tg e c b f)->C.ar l c=some (some r)->w.heap[r.block]?=some (.cells a r.elem r.fz)->∀j u,j<b.length*r.size->a[j]?=some u->D.im r.block j=some u
theorem EH:∀(a:List Nat){C:Cx}{h:aA},Inv B C h w->∃D,C.Le D/\Inv B D (dC h a) w/\D.bl=C.bl/\D.ar=C.ar/\yn4 C D h w a
 |[],C,h,b=>⟨C,.refl C,b,rfl,rfl,fun l x=>by cases x⟩|l::a,C,h,b=>by
  obtain⟨D,s,t,v,h4,h5⟩:=yK7 b l;obtain⟨E,k1,k2,k3,k4,k5⟩:=EH a t;refine⟨E,s.trans k1,k2,k3.trans v,k4.trans h4,fun k c tg p q o y r d e f i j u m n=>?_⟩;rcases dD.1 c with rfl|c;·exact k1.im _ _ _ (by rw[h5 tg p q o y r d e f i j m];exact n)
  ·obtain⟨z,g⟩:=yK6 (l:=l) h e;exact k5 k c tg p q o z r d g (by rw[h4];exact f) i j u m n
def DB(C:Cx)(I:Nat->Nat->Option Value)(h:aA)(w:World)(d:List Nat):Prop:=∀l∈d,∀tg e c b f r a,h[l]?=some (.arrT tg e c b f)->C.ar l c=some (some r)->w.heap[r.block]?=some (.cells a r.elem r.fz)->∀j u,j<b.length*r.size->a[j]?=some u->I r.block j=some u
theorem zX3(F:Inv B C h w){I:Nat->Nat->Option Value}(E:∀b o u,C.im b o=some u->I b o=some u){l A n:Nat}{z:List (List AV)}{x:Value}(L:DB C I h w [l])(g:rowsOf h (.own l A n)=some z)(N:Rel C (.own l A n) x):Rel (Cx.pure I) (.sl z) x:=by
 simp only[rowsOf]at g;split at g
 ·rename_i T U e V v;split at g
  ·rename_i f;obtain⟨rfl,Q⟩:=f;cases g;cases N with
   |ownnil _ _ p=>simp;exact .slnil|own _ _ _ r p O=>
    rcases F.ok l _ v with⟨k1,_⟩|⟨S,d,k1,k2,k3,k4,k5,k6,k7,k8,_⟩;·rw[p]at k1;cases k1
    ·rw[p]at k1;injection k1 with k1;cases k1;have J:(e.take n).length=n:=by simp;omega
     have y:Rel (Cx.pure I) (.sl (e.take n)) (.slice (some ⟨r.block,0,none⟩) (e.take n).length r.cap):=by
      refine .sl _ r.block 0 r.cap r.size (fun i j=>(d.toList[i*r.size+j]?).getD undef) (by omega) ?_ ?_ ?_
      ·intro i k a;exact k5 k (sN (gJ a))
      ·intro i k j c a f;have q:i<e.length:=by have:=(aF.1 a).1;simp at this;omega
       rw[fS]at a;split at a
       ·have t:=k5 k (gJ a);have H:j<r.size:=by rw[<-t];exact(aF.1 f).1
        have s:(i+1)*r.size<=e.length*r.size:=kH _ q;rw[gL]at s;have K:e.length*r.size<=d.size:=by rw[k7];exact kH _ k3
        have m:i*r.size+j<d.size:=by omega
        have M:d[i*r.size+j]?=some d[i*r.size+j]:=by simp[m]
        rw[eT];refine(L l (by simp) _ _ _ _ _ _ _ v p k6 (i*r.size+j) _ (by omega) M).trans ?_;simp[m]
       ·cases a
      ·intro i k j c a f;have q:i<e.length:=by have:=(aF.1 a).1;simp at this;omega
       rw[fS]at a;split at a
       ·have t:=k5 k (gJ a);have H:j<r.size:=by rw[<-t];exact(aF.1 f).1
        have s:(i+1)*r.size<=e.length*r.size:=kH _ q;rw[gL]at s;have K:e.length*r.size<=d.size:=by rw[k7];exact kH _ k3
        have m:i*r.size+j<d.size:=by omega
        have:=k8.2 (i*r.size+j) c d[i*r.size+j] (KJ e k5 i j k c a f) (by rw[fS,if_pos (by omega)];simp[m]);simp only[uJ];rw[show d[i*r.size+j]?=some d[i*r.size+j]by simp[m]];exact this.mono (mY (D:=Cx.pure I) E)
       ·cases a
     rw[J]at y;exact y
  ·cases g
 ·cases g
theorem xF7(K:Inv B C h w){I:Nat->Nat->Option Value}(J:∀b o u,C.im b o=some u->I b o=some u){l H a n:Nat}{F:List (List AV)}{x:Value}(Q:DB C I h w [l])(p:GT h l H a n=some F)(T:Rel C (.win l H a n) x):Rel (Cx.pure I) (.sl F) x:=by
 unfold GT at p;split at p
 ·rename_i X Y g Z A;split at p
  ·rename_i m;obtain⟨rfl,V⟩:=m;cases p;cases T with|win _ _ _ _ r s U=>
   rcases K.ok l _ A with⟨k1,_⟩|⟨W,k,k1,k2,k3,k4,k5,k6,k7,k8,_⟩;·rw[s]at k1;cases k1
   ·rw[s]at k1;injection k1 with k1;cases k1;have N:((g.drop a).take n).length=n:=by simp;omega
    have t:∀i f,((g.drop a).take n)[i]?=some f->i<n/\g[a+i]?=some f:=fun i f d=>by
     rw[fS]at d;split at d
     ·rename_i L;rw[oH]at d;exact⟨L,d⟩
     ·cases d
    have E:Rel (Cx.pure I) (.sl ((g.drop a).take n)) (.slice (some ⟨r.block,a*r.size,none⟩) ((g.drop a).take n).length (r.cap-a)):=by
     refine .sl _ r.block (a*r.size) (r.cap-a) r.size (fun i j=>(k.toList[(a+i)*r.size+j]?).getD undef) (by omega) ?_ ?_ ?_
     ·intro i f d;exact k5 f (gJ (t i f d).2)
     ·intro i f j c d m;obtain⟨_,d⟩:=t i f d;have v:a+i<g.length:=(aF.1 d).1;have z:=k5 f (gJ d);have M:j<r.size:=by rw[<-z];exact(aF.1 m).1
      have y:(a+i+1)*r.size<=g.length*r.size:=kH _ v;rw[gL]at y;have O:g.length*r.size<=k.size:=by rw[k7];exact kH _ k3
      have q:(a+i)*r.size+j<k.size:=by omega
      have S:k[(a+i)*r.size+j]?=some k[(a+i)*r.size+j]:=by simp[q]
      have e:a*r.size+i*r.size+j=(a+i)*r.size+j:=by rw[gL]
      rw[e];refine(Q l (by simp) _ _ _ _ _ _ _ A s k6 ((a+i)*r.size+j) _ (by omega) S).trans ?_;simp[q]
     ·intro i f j c d m;obtain⟨_,d⟩:=t i f d;have v:a+i<g.length:=(aF.1 d).1;have z:=k5 f (gJ d);have M:j<r.size:=by rw[<-z];exact(aF.1 m).1
      have y:(a+i+1)*r.size<=g.length*r.size:=kH _ v;rw[gL]at y;have O:g.length*r.size<=k.size:=by rw[k7];exact kH _ k3
      have q:(a+i)*r.size+j<k.size:=by omega
      have:=k8.2 ((a+i)*r.size+j) c k[(a+i)*r.size+j] (KJ g k5 (a+i) j f c d m) (by rw[fS,if_pos (by omega)];simp[q]);simp only[uJ];rw[show k[(a+i)*r.size+j]?=some k[(a+i)*r.size+j]by simp[q]];exact this.mono (mY (D:=Cx.pure I) J)
    rw[N]at E;exact E
  ·cases p
 ·cases p
mutual theorem zg9(z:Inv B C h w){I:Nat->Nat->Option Value}(p:∀b o u,C.im b o=some u->I b o=some u):∀(v k:AV)(x:Value),DB C I h w (owns v)->view h v=some k->Rel C v x->Rel (Cx.pure I) k x
 |.bool b,k,x,_,e,g=>by simp only[view]at e;cases e;rw[jG g];exact .bool _|.int b1 n,k,x,_,e,g=>by simp only[view]at e;cases e;rw[dK g];exact .int _ _|.str b2,k,x,_,e,g=>by simp only[view]at e;cases e;rw[eD g];exact .str _|.agg Y,k,x,q,e,g=>by
  simp only[view]at e;cases m:cV h Y with
  |none=>simp[m]at e|some s=>
   simp only[m,dI,aE]at e;subst e;obtain⟨r,rfl,a2⟩:=sJ g;have:=GR z p Y s r.toList (by simpa[owns]using q) m a2;exact .agg s r (by simpa using this.1) (fun i c u t M=>this.2 i c u t (by simpa using M))
 |.sl K,k,x,_,e,g=>by
  simp only[view]at e;cases e;have L:=mY (D:=Cx.pure I) p;cases g with
  |slnil=>exact .slnil|slz a Q=>exact .slz a Q|sl _ b o Q V r Z F H S=>exact .sl K b o Q V r Z F (fun i A j c x y=>p _ _ _ (H i A j c x y)) (fun i A j c x y=>(S i A j c x y).mono L)
 |.tsl K,k,x,_,e,g=>by
  simp only[view]at e;cases e;have L:=mY (D:=Cx.pure I) p;cases g with
  |tslnil=>exact .slnil|tslz a=>exact .slz a 0|tsl _ b o V r F H S=>exact .sl K b o K.length V r (bP _) F (fun i A j c x y=>p _ _ _ (H i A j c x y)) (fun i A j c x y=>(S i A j c x y).mono L)
 |.nils,k,x,_,e,g=>by simp only[view]at e;cases e;cases g;exact .slnil|.own l W n,k,x,q,e,g=>by
  simp only[view]at e;cases J:rowsOf h (.own l W n)with
  |none=>simp[J]at e|some K=>
   simp only[J,dI,aE]at e;subst e;exact zX3 z p (by simpa[owns]using q) J g
 |.win l W lo n,k,x,q,e,g=>by
  simp only[view]at e;cases J:GT h l W lo n with
  |none=>simp[J]at e|some K=>
   simp only[J,dI,aE]at e;subst e;exact xF7 z p (by simpa[owns]using q) J g
 |.fptr A a1,k,x,_,e,g=>by
  simp only[view]at e;cases e;have L:=mY (D:=Cx.pure I) p;cases g with|fptr _ _ b o r F H=>exact .fptr A a1 b o r (fun j c x=>p _ _ _ (F j c x)) (fun j c x=>(H j c x).mono L)
 |.nilp,k,x,_,e,g=>by simp only[view]at e;cases e;cases g;exact .nilp|.nilm,k,x,_,e,g=>by simp only[view]at e;cases e;cases g;exact .nilm|.nilf,k,x,_,e,g=>by simp only[view]at e;cases e;cases g;exact .nilf|.nili,k,x,_,e,g=>by simp only[view]at e;cases e;cases g;exact .nili|.fn f X,k,x,q,e,g=>by
  simp only[view]at e;cases m:cV h X with
  |none=>simp[m]at e|some s=>
   simp only[m,dI,aE]at e;subst e;cases g with|fn _ _ r U T=>
    have:=GR z p X s r.toList (by simpa[owns]using q) m ⟨by simpa using U,fun i c v t e=>T i c v t (by simpa using e)⟩;exact .fn f s r (by simpa using this.1) (fun i c u t M=>this.2 i c u t (by simpa using M))
 |.iface a3 v,k,x,q,e,g=>by
  simp only[view]at e;cases m:view h v with
  |none=>simp[m]at e|some d=>
   simp only[m,dI,aE]at e;subst e;cases g with|iface _ _ y hy=>exact .iface a3 d y (zg9 z p v d y (by simpa[owns]using q) m hy)
 |.tup E,k,x,q,e,g=>by
  simp only[view]at e;cases m:cV h E with
  |none=>simp[m]at e|some s=>
   simp only[m,dI,aE]at e;subst e;cases g with|tup _ r U T=>
    have:=GR z p E s r.toList (by simpa[owns]using q) m ⟨by simpa using U,fun i c v t e=>T i c v t (by simpa using e)⟩;exact .tup s r (by simpa using this.1) (fun i c u t M=>this.2 i c u t (by simpa using M))
 |.ptr _ _,k,x,_,e,_=>by simp[view]at e|.eptr _ _ _ _,k,x,_,e,_=>by simp[view]at e|.gptr _ _,k,x,_,e,_=>by simp[view]at e|.map _,k,x,_,e,_=>by simp[view]at e|.yld _,k,x,_,e,_=>by simp[view]at e|.junk,k,x,_,e,_=>by simp[view]at e theorem GR(z:Inv B C h w){I:Nat->Nat->Option Value}(p:∀b o u,C.im b o=some u->I b o=some u):∀(E N:List AV)(O:List Value),DB C I h w (eZ E)->cV h E=some N->RelL C E O->RelL (Cx.pure I) N O
 |[],N,O,_,e,g=>by simp only[cV]at e;cases e;have:=g.inv_nil;subst this;exact .nil|v::E,N,O,q,e,g=>by
  simp only[cV]at e;split at e
  ·rename_i d s F H;cases e;obtain⟨y,ys,rfl,r1,r2⟩:=g.inv_cons;simp only[eZ]at q;exact .cons (zg9 z p v d y (fun l m=>q l (iK.2 (.inl m))) F r1) (GR z p E s ys (fun l m=>q l (iK.2 (.inr m))) H r2)
  ·cases e end
mutual theorem zg8(A:Inv B C h w){I:Nat->Nat->Option Value}(p:∀b o u,C.im b o=some u->I b o=some u):∀(v k:AV)(x:Value),DB C I h w (owns v)->fH h v=some k->Rel C v x->Rel (Cx.pure I) k x
 |.bool b,k,x,_,e,g=>by simp only[fH]at e;cases e;rw[jG g];exact .bool _|.int b2 n,k,x,_,e,g=>by simp only[fH]at e;cases e;rw[dK g];exact .int _ _|.str b3,k,x,_,e,g=>by simp only[fH]at e;cases e;rw[eD g];exact .str _|.agg X,k,x,r,e,g=>by
  simp only[fH]at e;cases m:qQ h X with
  |none=>simp[m]at e|some s=>
   simp only[m,dI,aE]at e;subst e;obtain⟨q,rfl,a2⟩:=sJ g;have:=NL A p X s q.toList (by simpa[owns]using r) m a2;exact .agg s q (by simpa using this.1) (fun i c u t K=>this.2 i c u t (by simpa using K))
 |.sl L,k,x,_,e,g=>by
  simp only[fH]at e;cases e;have J:=mY (D:=Cx.pure I) p;cases g with
  |slnil=>exact .slnil|slz a O=>exact .slz a O|sl _ b o O V q Y F H Q=>exact .sl L b o O V q Y F (fun i z j c x y=>p _ _ _ (H i z j c x y)) (fun i z j c x y=>(Q i z j c x y).mono J)
 |.tsl L,k,x,_,e,g=>by
  simp only[fH]at e;cases e;have J:=mY (D:=Cx.pure I) p;cases g with
  |tslnil=>exact .tslnil|tslz a=>exact .tslz a|tsl _ b o V q F H Q=>exact .tsl L b o V q F (fun i z j c x y=>p _ _ _ (H i z j c x y)) (fun i z j c x y=>(Q i z j c x y).mono J)
 |.nils,k,x,_,e,g=>by simp only[fH]at e;cases e;cases g;exact .nils|.own l b1 n,k,x,r,e,g=>by
  simp only[fH]at e;cases U:rowsOf h (.own l b1 n)with
  |none=>simp[U]at e|some L=>
   simp only[U,dI,aE]at e;subst e;exact zX3 A p (by simpa[owns]using r) U g
 |.fptr z a1,k,x,_,e,g=>by
  simp only[fH]at e;cases e;have J:=mY (D:=Cx.pure I) p;cases g with|fptr _ _ b o q F H=>exact .fptr z a1 b o q (fun j c x=>p _ _ _ (F j c x)) (fun j c x=>(H j c x).mono J)
 |.nilp,k,x,_,e,g=>by simp only[fH]at e;cases e;cases g;exact .nilp|.nilm,k,x,_,e,g=>by simp only[fH]at e;cases e;cases g;exact .nilm|.nilf,k,x,_,e,g=>by simp only[fH]at e;cases e;cases g;exact .nilf|.nili,k,x,_,e,g=>by simp only[fH]at e;cases e;cases g;exact .nili|.fn f W,k,x,r,e,g=>by
  simp only[fH]at e;cases m:qQ h W with
  |none=>simp[m]at e|some s=>
   simp only[m,dI,aE]at e;subst e;cases g with|fn _ _ q T S=>
    have:=NL A p W s q.toList (by simpa[owns]using r) m ⟨by simpa using T,fun i c v t e=>S i c v t (by simpa using e)⟩;exact .fn f s q (by simpa using this.1) (fun i c u t K=>this.2 i c u t (by simpa using K))
 |.iface a3 v,k,x,r,e,g=>by
  simp only[fH]at e;cases m:fH h v with
  |none=>simp[m]at e|some d=>
   simp only[m,dI,aE]at e;subst e;cases g with|iface _ _ y Z=>exact .iface a3 d y (zg8 A p v d y (by simpa[owns]using r) m Z)
 |.tup E,k,x,r,e,g=>by
  simp only[fH]at e;cases m:qQ h E with
  |none=>simp[m]at e|some s=>
   simp only[m,dI,aE]at e;subst e;cases g with|tup _ q T S=>
    have:=NL A p E s q.toList (by simpa[owns]using r) m ⟨by simpa using T,fun i c v t e=>S i c v t (by simpa using e)⟩;exact .tup s q (by simpa using this.1) (fun i c u t K=>this.2 i c u t (by simpa using K))
 |.ptr _ _,k,x,_,e,_=>by simp[fH]at e|.win _ _ _ _,k,x,_,e,_=>by simp[fH]at e|.eptr _ _ _ _,k,x,_,e,_=>by simp[fH]at e|.gptr _ _,k,x,_,e,_=>by simp[fH]at e|.map _,k,x,_,e,_=>by simp[fH]at e|.yld _,k,x,_,e,_=>by simp[fH]at e|.junk,k,x,_,e,_=>by simp[fH]at e theorem NL(A:Inv B C h w){I:Nat->Nat->Option Value}(p:∀b o u,C.im b o=some u->I b o=some u):∀(E M:List AV)(N:List Value),DB C I h w (eZ E)->qQ h E=some M->RelL C E N->RelL (Cx.pure I) M N
 |[],M,N,_,e,g=>by simp only[qQ]at e;cases e;have:=g.inv_nil;subst this;exact .nil|v::E,M,N,r,e,g=>by
  simp only[qQ]at e;split at e
  ·rename_i d s F H;cases e;obtain⟨y,ys,rfl,r1,r2⟩:=g.inv_cons;simp only[eZ]at r;exact .cons (zg8 A p v d y (fun l m=>r l (iK.2 (.inl m))) F r1) (NL A p E s ys (fun l m=>r l (iK.2 (.inr m))) H r2)
  ·cases e end
end
def xF(P:Program)(a:TypeId):Option EK:=match P.underlying a with
 |some .string=>some .s|some (.int _)=>some .i|some .bool=>some .b|_=>none
def vP(P:Program)(t:TypeId):Option Nat:=(P.info? t).map (·.bytes)
def JM(P:Program)(own:Bool)(o:TypeId):Op->Option (AO×List Operand)
 |.alloc e=>match kC P e with
  |some z=>some (.alloc z,[])|none=>none
 |.box _ x=>some (.box,[x])|.store t a v=>match dU P t with
  |some n=>some (.st n,[a,v])|none=>none
 |.assign (.const (.slice none 0 0))=>match P.underlying o with
  |some (.slice e)=>(match dU P e with
   |some n=>some (.newnil n,[])|none=>none)|_=>none
 |.makeMap _ none=>some (.mkmap,[])|.mapUpdate t m k v=>match P.underlying t with
  |some (.map d _)=>(match xF P d with
   |some e=>some (.mapup e,[m,k,v])|none=>none)|_=>none
 |.insert t m k v=>match P.underlying t with
  |some (.map d _)=>(match xF P d with
   |some e=>some (.mapup e,[m,k,v])|none=>none)|_=>none
 |.makeSlice t l c=>match P.underlying t with
  |some (.slice e)=>(match kC P e,vP P e,dU P e with
   |some z,some b,some n=>if z.length=n/\0<n then some (.mksl z b,[l,c])else none|_,_,_=>none)|_=>none
 |.buildSlice t i f=>match P.underlying t with
  |some (.slice e)=>(match dU P e,kC P e with
   |some n,some _=>if f.toList.map (·.1)=List.range i then some (.bsl own n,f.toList.map (·.2))else none|_,_=>none)|_=>none
 |.call {callee:=.builtin .append,args,argTypes}=>match args.toList,argTypes.toList with
  |[s,x],[t,j]=>(match P.underlying t with
   |some (.slice e)=>(match dU P e,vP P e,kC P e,P.underlying j with
    |some n,some b,some z,some (.slice _)=>if 0<n/\z.length=n then some (.app false n b,[s,x])else none|some n,some b,some z,some .string=>if n=1/\z.length=n then some (.app true n b,[s,x])else none|_,_,_,_=>none)|_=>none)|_,_=>none
 |.range t x=>match P.underlying t with
  |some .string=>some (.rng,[x])|some (.map _ _)=>some (.rngm,[x])|_=>none
 |.next g true=>some (.nxt,[g])|_=>none
section
variable{P:Program}{B:Base}{C D:Cx}{h:aA}{w w':World}{G:Gam}
theorem tA(d:Inv B C h w){v u:AV}{x:Value}{c:aA}(a:frz h v=some (u,c))(e:Rel C v x):∃D,C.Le D/\Inv B D c w/\Rel (Cx.pure D.im) u x/\D.bl=C.bl/\D.ar=C.ar:=by
 unfold frz at a;cases b:view h v with
 |none=>simp[b]at a|some f=>
  simp only[b,dI,aE,aR]at a;obtain⟨rfl,rfl⟩:=a;obtain⟨D,k1,k2,k3,k4,k5⟩:=EH (owns v) d;exact⟨D,k1,k2,zg9 d k1.im v f x k5 b e,k3,k4⟩
theorem zy1(d:Inv B C h w){v u:AV}{x:Value}{c:aA}(a:EI h v=some (u,c))(e:Rel C v x):∃D,C.Le D/\Inv B D c w/\Rel (Cx.pure D.im) u x/\D.bl=C.bl/\D.ar=C.ar:=by
 unfold EI at a;cases b:fH h v with
 |none=>simp[b]at a|some f=>
  simp only[b,dI,aE,aR]at a;obtain⟨rfl,rfl⟩:=a;obtain⟨D,k1,k2,k3,k4,k5⟩:=EH (owns v) d;exact⟨D,k1,k2,zg8 d k1.im v f x k5 b e,k3,k4⟩
theorem zy2(f:Inv B C h w){a g:List AV}{d:List Value}{e:aA}(b:xA h a=some (g,e))(i:RelL C a d):∃D,C.Le D/\Inv B D e w/\RelL (Cx.pure D.im) g d/\D.bl=C.bl/\D.ar=C.ar:=by
 unfold xA at b;cases c:cV h a with
 |none=>simp[c]at b|some j=>
  simp only[c,dI,aE,aR]at b;obtain⟨rfl,rfl⟩:=b;obtain⟨D,k1,k2,k3,k4,k5⟩:=EH (eZ a) f;exact⟨D,k1,k2,GR f k1.im a j d k5 c i,k3,k4⟩
theorem yK8(f:Inv B C h w){a g:List AV}{d:List Value}{e:aA}(b:QN h a=some (g,e))(i:RelL C a d):∃D,C.Le D/\Inv B D e w/\RelL (Cx.pure D.im) g d/\D.bl=C.bl/\D.ar=C.ar:=by
 unfold QN at b;cases c:qQ h a with
 |none=>simp[c]at b|some j=>
  simp only[c,dI,aE,aR]at b;obtain⟨rfl,rfl⟩:=b;obtain⟨D,k1,k2,k3,k4,k5⟩:=EH (eZ a) f;exact⟨D,k1,k2,NL f k1.im a j d k5 c i,k3,k4⟩
theorem xf1{a:AV}{x:Value}(h:Rel C a x)(b:bE a=true):x.oneCell'=true:=by cases h<;>first|rfl|(simp[bE]at b)
theorem EZ{a:List AV}{d:List Value}(h:RelL C a d)(e:a.all bE=true):∀x∈d,x.oneCell'=true:=by
 intro x g;obtain⟨i,b⟩:=lM.1 g;have c:i<a.length:=by rw[h.1];exact(aF.1 b).1
 have f:a[i]?=some a[i]:=by simp[c]
 exact xf1 (h.2 i _ x f b) (fK.1 e _ (IQ c))
theorem tR:∀(d b:List AV)(a:Nat),a+d.length<=b.length->bF b a d=b.take a++d++b.drop (a+d.length)
 |[],b,a,_=>by simp[bF]|c::d,b,a,e=>by
  simp only[jA]at e;rw[bF,tR d (b.set a c) (a+1) (by simp;omega)];have f:a<b.length:=by omega
  rw[List.take_add_one,List.take_set_of_le (bP _),fL f];rw[show a+1+d.length=a+(c::d).length by rw[jA];omega];rw[List.drop_set_of_lt (by rw[jA];omega)];simp
theorem zc3{b:List AV}{d:List Value}{c:List AV}{e:List Value}(h:RelL C b d)(k:RelL C c e)(a:Nat):RelL C (b.take a++c++b.drop (a+c.length)) (d.take a++e++d.drop (a+e.length)):=by rw[<-k.1];exact((h.take a).append k).append (h.drop _)
theorem YE{b:Nat}{d a:Array Value}{e:TypeId}{c:Nat×Nat}(f:w.heap[b]?=some (.cells d e c)):(w.setRow b a).heap[b]?=some (.cells a e c):=setRow_heap w b d a e c f
theorem RowAt.thaw{r:RowAt}{a:Array Value}{v:World}(b:v.heap[r.block]?=some (.cells a r.elem r.fz)){j:Nat}(c:j<r.cap*r.size):v.frozen? ⟨r.block,j,none⟩=false:=by
 unfold World.frozen?;rw[b];unfold RowAt.fz;cases r.cv<;>simp<;>omega
theorem WT{b:Nat}{t:TypeId}{f:Nat×Nat}:∀(d:List Value)(o:Nat)(a:Array Value)(v:World),v.heap[b]?=some (.cells a t f)->o+d.length<=a.size->v.setCells b o d=v.setRow b (a.toList.take o++d++a.toList.drop (o+d.length)).toArray
 |[],o,a,v,c,_=>by
  simp only[World.setCells,iR,kN,Nat.add_zero,sO,Array.toArray_toList];rw[setRow_self v b a t f c]|x::r,o,a,v,c,g=>by
  have i:=WT r (o+1) (a.setIfInBounds o x) (v.setRow b (a.setIfInBounds o x)) (setRow_heap v b a _ t _ c) (by simp at g⊢;omega);simp only[World.setCells];rw[setCell_eq_setRow v b o a t f x c,i,setRow_setRow];congr 2;have e:=list_seg_step a.toList o x r (by simp at g⊢;omega);simpa[Array.toList_setIfInBounds]using e
theorem zX1{r:RowAt}{b:Array Value}(c:w.heap[r.block]?=some (.cells b r.elem r.fz))(g:b.size=r.cap*r.size)(o:Nat)(a:List Value)(f:o+a.length<=b.size)(d:∀v∈a,v.oneCell'=true):(storeCells ⟨r.block,o,none⟩ a 0).run P w=.ok () (w.setRow r.block (b.toList.take o++a++b.toList.drop (o+a.length)).toArray):=by
 have:=run_storeCells_cells (P:=P) r.block o a 0 w (fun j e=>by simp[World.cell?,c];omega) (fun j e=>RowAt.thaw c (by simp;omega)) d;rw[this,Nat.add_zero,WT a o b w c f]
structure Keep(B:Nat)(w w':World):Prop where
 below:Below B w w'
 sys:∀(k:Nat)c,w.heap[k]?=some (.deferred c)->w'.heap[k]?=some (.deferred c)
theorem Keep.refl(B:Nat)(w:World):Keep B w w:=⟨Below.refl _ _,fun _ _ h=>h⟩
theorem Keep.trans{n:Nat}{a b c:World}(h:Keep n a b)(k:Keep n b c):Keep n a c:=⟨h.below.trans k.below,fun i o x=>k.sys i o (h.sys i o x)⟩
theorem Keep.grown{n:Nat}{w w':World}(h:Below w.heap.size w w')(a:n<=w.heap.size):Keep n w w':=⟨h.mono a,fun k _c x=>(h.block k (fM x)).trans x⟩
theorem Keep.setCell{n:Nat}{a w:World}(h:Keep n a w){p:Addr}(d:n<=p.block)(u:Value):Keep n a (w.setCell p u):=⟨h.below.setCell d u,fun k c x=>by
 have x:=h.sys k c x;by_cases e:k=p.block
 ·subst e;obtain⟨b,f⟩:=lL.1 x;unfold World.setCell;rw[Array.getElem?_eq_getElem (by simpa using b),Array.getElem_modify_self,f]
 ·exact(Below.heap_setCell w p u k e).trans x⟩
theorem below_setRow{b:Nat}(i:B<=b)(a:Array Value):Keep B w (w.setRow b a):=⟨⟨rfl,rfl,rfl,by simp,fun k d=>setRow_other w b k a (by omega)⟩,fun k c d=>by
 by_cases e:k=b
 ·subst e;obtain⟨f,g⟩:=lL.1 d;unfold World.setRow;rw[Array.getElem?_eq_getElem (by simpa using f),Array.getElem_modify_self,g]
 ·rw[setRow_other w b k a e];exact d⟩
def Left(_P:Program)(B:Base)(C:Cx)(w:World)(r:Result Next)(v:AV)(a:aA):Prop:=∃n u D w',r=.ok n w'/\(n=.value u\/(n=.skip/\u=undef))/\C.Le D/\Inv B D a w'/\Rel D v u/\Keep B w w'
theorem jK(b:Inv B C h w)(a:Below w.heap.size w w'):Keep B w w':=.grown a b.hB
theorem xw1(d:Inv B C h w){t:TypeId}{g l a:Nat}(L:dU P t=some g){v:AV}{x y:Value}(O:Rel C (.ptr l a) x)(Q:Rel C v y){q:List AV}{tg:Option TypeId}(A:h[l]?=some (.cellsT tg q))(E:v.cells.length=g)(X:0<g)(K:v.cells.all bE=true)(Y:a+g<=q.length):∃w',(Instr.storeAt t x y).run P w=.ok () w'/\Inv B C (h.set l (.cellsT tg (bF q a v.cells))) w'/\Keep B w w':=by
 have n:=JI Q (by intro e;rw[e]at E;simp at E;omega);cases O with|ptr _ _ b j=>
  obtain⟨c,i,e,r,s,z,h4,h5,H⟩:=d.ok l _ A;rw[j]at r;cases r;have I:=h5.1;simp at I;have N:=n.1;simp at N;have F:=run_storeCells_at P b a e y.cells.toList 0 i w z (by simp;omega) (EZ n K);simp only[Nat.add_zero]at F;refine⟨w.setRow b (i.toList.take a++y.cells.toList++i.toList.drop (a+y.cells.toList.length)).toArray,?_,?_,below_setRow s _⟩
  ·simp only[Instr.storeAt,Instr.sureAddr,Sem.run_bind,Sem.run_pure,Result.andThen_ok,storeVar,jC L];rw[if_neg (by simp;omega)];simpa using F
  ·refine d.turn A (.refl C) (by simp) (fun c m _=>⟨setRow_other w b c _ (fun e=>m (by simp[aU,j,e])),fun _=>rfl⟩) (fun c o u p=>?_) d.one ?_ (fun c m=>.inl m) d.fr (fun k S tg U V T W f v M=>?_)
   ·have J:c≠b:=fun e=>by subst e;rw[h4 o]at p;cases p
    rw[cell_setRow_other w b _ ⟨c,o,none⟩ J];exact d.im _ _ _ p
   ·refine⟨b,_,e,j,s,YE z,h4,?_,H⟩;rw[tR _ _ _ (by omega)];simpa using zc3 h5 n a
   ·rw[iZ]at f;split at f
    ·split at f;·cases f
     ·cases f
    ·exact d.fv k S tg U V T W f v M
theorem VU(d:Inv B C h w){s t:Bool}{tg y:Option TypeId}{l n x b:Nat}{j u:List (List AV)}{q z:Bool}(f:h[l]?=some (.arrX s tg n b j q))(k:Nat)(i:Bool)(p:Option TypeId)(o c:Nat)(m:List (List AV))(r:Bool)(a:(h.set l (.arrX t y x b u z))[k]?=some (.arrX i p o c m r))(v:Nat)(g:c<v):C.ar k v=none:=by
 rw[iZ]at a;by_cases e:l=k
 ·subst e;rw[if_pos rfl,if_pos (aF.1 f).1]at a;injection a with a;injection a with F E A a;subst a;exact d.fv l _ tg n b j q f v g
 ·rw[if_neg e]at a;exact d.fv k i p o c m r a v g
theorem zx6(a:List (List AV)){i:Nat}{b:List AV}(h:a[i]?=some b):a.flatten=(a.take i).flatten++b++(a.drop (i+1)).flatten:=by
 have c:i<a.length:=(aF.1 h).1;have d:a[i]=b:=(aF.1 h).2;conv=>lhs;rw[<-sO i a,zE c]
 simp[d]
theorem yK1(a:List (List AV)){i:Nat}{e b:List AV}(h:a[i]?=some e):(a.set i b).flatten=(a.take i).flatten++b++(a.drop (i+1)).flatten:=by
 have d:i<a.length:=(aF.1 h).1;have c:(a.set i b)[i]?=some b:=by rw[fL d]
 rw[zx6 _ c,List.take_set_of_le (bP _),List.drop_set_of_lt (by omega)]
theorem yb9(g:Inv B C h w){ne:Bool}{t:TypeId}{k l K z i a:Nat}(U:dU P t=some k){u:AV}{x y:Value}(c:Rel C (.eptr l z i a) x)(X:Rel (C.at ne) u y){b:List (List AV)}{tg:Option TypeId}(s:h[l]?=some (.arrX ne tg K z b true)){d:List AV}(p:b[i]?=some d)(E:u.cells.length=k)(Y:0<k)(F:u.cells.all bE=true)(a2:a+k<=d.length):∃w',(Instr.storeAt t x y).run P w=.ok () w'/\Inv B C (h.set l (.arrX ne tg K z (b.set i (bF d a u.cells)) true)) w'/\Keep B w w':=by
 have n:=JI X (by intro e;rw[e]at E;simp at E;omega);cases c with|eptr _ _ _ _ r m=>
  rcases g.ok l _ s with⟨k1,_⟩|⟨r',f,k1,k2,k3,k4,k5,k6,k7,k8,J,k9,k10,k11⟩;·rw[m]at k1;cases k1
  ·rw[m]at k1;injection k1 with k1;cases k1;have N:i<b.length:=(aF.1 p).1;have a1:=k5 d (gJ p);have Q:(i+1)*r.size<=b.length*r.size:=kH _ N;have Z:b.length*r.size<=f.size:=by rw[k7];exact kH _ k3
   rw[gL]at Q;have W:=n.1;simp at W;have V:=zX1 (P:=P) k6 k7 (i*r.size+a) y.cells.toList (by simp;omega) (EZ n F);have H:(b.take i).flatten.length=i*r.size:=by rw[lR (n:=r.size) _ (fun x c=>k5 x (sN c)),sM,wN (by omega)]
   have A:=lR b k5;have T:(b.set i (bF d a u.cells)).flatten=bF b.flatten (i*r.size+a) u.cells:=by
    have L:((b.take i).flatten++d++(b.drop (i+1)).flatten).take (i*r.size+a)=(b.take i).flatten++d.take a:=by
     rw[jT,uN,lN (by omega),H,Nat.add_sub_cancel_left,uN,show a-d.length=0 by omega];simp
    have M:((b.take i).flatten++d++(b.drop (i+1)).flatten).drop (i*r.size+a+u.cells.length)=d.drop (a+u.cells.length)++(b.drop (i+1)).flatten:=by
     rw[jT,IK,OL (by omega),H,show i*r.size+a+u.cells.length-i*r.size=a+u.cells.length by omega,IK,show a+u.cells.length-d.length=0 by omega];simp
    rw[yK1 b p,tR _ _ _ (by omega),tR _ _ _ (by rw[A];omega),zx6 b p,L,M];simp only[jT]
   refine⟨w.setRow r.block (f.toList.take (i*r.size+a)++y.cells.toList++f.toList.drop (i*r.size+a+y.cells.toList.length)).toArray,?_,?_,below_setRow k2 _⟩
   ·simp only[Instr.storeAt,Instr.sureAddr,Sem.run_bind,Sem.run_pure,Result.andThen_ok,storeVar,jC U];rw[if_neg (by simp;omega)];simpa using V
   ·have O:(bF d a u.cells).length=r.size:=by rw[tR _ _ _ (by omega)];simp;omega
    have I:(f.toList.take (i*r.size+a)++y.cells.toList++f.toList.drop (i*r.size+a+y.cells.toList.length)).take (b.length*r.size)=(f.toList.take (b.length*r.size)).take (i*r.size+a)++y.cells.toList++(f.toList.take (b.length*r.size)).drop (i*r.size+a+y.cells.toList.length):=by
     have a3:y.cells.toList.length=k:=by simp;omega
     rw[zK,wN (by omega),uN,lN (by simp;omega)];congr 1;rw[List.drop_take];congr 1;simp;omega
    refine g.turn s (.refl C) (by simp) (fun j q _=>⟨setRow_other w r.block j _ (fun e=>q (by simp[aU,m,e])),fun _=>rfl⟩) (fun j o u' v=>?_) g.one ?_ (fun j q=>.inl q) g.fr (VU g s)
    ·have S:j≠r.block:=fun e=>by subst e;rw[k9 rfl o]at v;cases v
     rw[cell_setRow_other w r.block _ ⟨j,o,none⟩ S];exact g.im _ _ _ v
    ·refine .inr ⟨r,_,m,k2,by simpa using k3,k4,fun x c=>?_,YE k6,?_,?_,fun x c=>?_,k9,(fun e=>by cases e),k11.1,k11.2.len (by simp)⟩
     ·rcases List.mem_or_eq_of_mem_set c with c|rfl;·exact k5 x c
      ·exact O
     ·simp;omega
     ·rw[T,tR _ _ _ (by rw[A];omega),gT];simp only;rw[I];exact zc3 k8 n (i*r.size+a)
     ·rw[gT]at c;simp only at c;rw[I]at c;simp only[iK]at c;rcases c with(c|c)|c;·exact J x (sN c)
      ·exact EZ n F x c
      ·exact J x (DE c)
theorem yW2{b:TypeId}{e:EK}(h:xF P b=some e):∃d,P.underlying b=some d/\(match e with|.s=>d=.string|.i=>∃q,d=.int q|.b=>d=.bool):=by
 unfold xF at h;split at h<;>(first|cases h|skip);·rename_i a;exact⟨_,a,rfl⟩
 ·rename_i q a;exact⟨_,a,q,rfl⟩
 ·rename_i a;exact⟨_,a,rfl⟩
theorem xq0{e:EK}{k c:AV}{x y:Value}{n:Nat}(a:Rel C k x)(b:Rel C c y)(h:qA e k c=some true):Instr.sameBits n y x=true:=by
 cases e<;>cases k<;>cases c<;>simp only[qA]at h<;>(first|cases h|skip);·rw[jG a,jG b];injection h with h;simp at h;subst h;simp[Instr.sameBits]
 ·split at h
  ·rename_i d;injection h with h;simp at h;subst h d;rw[dK a,dK b];simp[Instr.sameBits]
  ·cases h
 ·rw[eD a,eD b];injection h with h;simp at h;subst h;simp only[Instr.sameBits];rw[beq_toListBytes];simp
theorem zO4{e:EK}{d:TypeDesc}(E:match e with|.s=>d=.string|.i=>∃q,d=.int q|.b=>d=.bool){k v:AV}{x y:Value}(r:Rel C k x)(K:Rel C v y):∀(o:List (AV×AV))(l:List MapEntry)(n:Nat)(s:List (AV×AV)),o.length=l.length->(∀(i:Nat)k v m,o[i]?=some (k,v)->l[i]?=some m->Rel C k m.key/\Rel C v m.val)->tG e k v o=some s->(∃i u key,Instr.findNow d x l n=some (some (n+i,u))/\(l[i]?).map (·.key)=some key/\(∀n,Instr.sameBits n key x=true)/\i<l.length/\s.length=l.length/\(∀(j:Nat)k v m,s[j]?=some (k,v)->(l.modify i fun m=>{m with key:=x,val:=y})[j]?=some m->Rel C k m.key/\Rel C v m.val))\/(Instr.findNow d x l n=some none/\s=o++[(k,v)])
 |[],[],n,s,_,_,h=>by simp[tG]at h;subst h;exact .inr ⟨rfl,rfl⟩|[],_::_,_,_,t,_,_=>by simp at t|_::_,[],_,_,t,_,_=>by simp at t|(L,U)::o,m::l,n,s,t,I,h=>by
  obtain⟨p,T⟩:=I 0 L U m rfl rfl;have J:∀(i:Nat)k v m,o[i]?=some (k,v)->l[i]?=some m->Rel C k m.key/\Rel C v m.val:=fun i k v m f g=>I (i+1) k v m (by simpa using f) (by simpa using g);simp only[tG]at h;split at h
  ·rename_i c;cases h;have:=QX E r p c;refine .inl ⟨0,m.val,m.key,by simp[Instr.findNow,this],rfl,fun n=>xq0 r p c,by simp,by simpa using t,fun j a b q f g=>?_⟩;cases j with
   |zero=>
    simp at f g;obtain⟨rfl,rfl⟩:=f;subst g;refine⟨?_,K⟩;have:x=m.key:=by
     cases e<;>cases k<;>cases L<;>simp only[qA]at c<;>(first|cases c|skip);·rw[jG r,jG p];injection c with c;simp at c;rw[c]
     ·split at c;·rename_i Q;injection c with c;simp at c;rw[dK r,dK p,c,Q]
      ·cases c
     ·rw[eD r,eD p];injection c with c;simp at c;rw[c]
    rw[this];exact p|succ j=>simp at f g;exact J j a b q f g
  ·rename_i c;have H:=QX E r p c;cases F:tG e k v o with
   |none=>simp[F]at h|some S=>
    simp only[F,dI,aE]at h;subst h;rcases zO4 E r K o l (n+1) S (by simpa using t) J F with⟨i,u,key,z,A,M,V,N,O⟩|⟨z,A⟩
    ·refine .inl ⟨i+1,u,key,?_,by simpa using A,M,by simp;omega,by simp[N],fun j a b q f g=>?_⟩;·simp only[Instr.findNow,H];rw[z];congr 3;omega
     ·cases j with
      |zero=>simp at f g;obtain⟨rfl,rfl⟩:=f;subst g;exact⟨p,T⟩|succ j=>simp at f g;exact O j a b q f g
    ·exact .inr ⟨by simp only[Instr.findNow,H];exact z,by simp[A]⟩
  ·cases h
end
section
variable{P:Program}{B:Base}{C D:Cx}{h:aA}{w w':World}{G:Gam}
theorem QL{b size:Nat}:∀(g:List (List AV))(o:Nat)(e:Nat->Nat->Value),(∀a∈g,a.length=size)->(∀(i:Nat)a(j:Nat)c,g[i]?=some a->a[j]?=some c->C.im b (o+i*size+j)=some (e i j))->(∀(i:Nat)a(j:Nat)c,g[i]?=some a->a[j]?=some c->Rel (Cx.pure C.im) c (e i j))->∃l,RelL (Cx.pure C.im) g.flatten l/\∀(j:Nat)u,l[j]?=some u->C.im b (o+j)=some u
 |[],o,e,_,_,_=>⟨[],.nil,fun j u d=>by simp at d⟩|r::t,o,e,n,k,m=>by
  obtain⟨l,p,q⟩:=QL t (o+size) (fun i j=>e (i+1) j) (fun x s=>n x (by simp[s])) (fun i a j c x y=>by
    have:=k (i+1) a j c (by simpa using x) y;rwa[show o+(i+1)*size+j=o+size+i*size+j by rw[gL];omega]at this) (fun i a j c x y=>m (i+1) a j c (by simpa using x) y);have v:r.length=size:=n r (by simp);refine⟨(List.range r.length).map (e 0)++l,?_,fun j u d=>?_⟩
  ·rw[oF];exact(zX0 (fun j c d=>m 0 r j c rfl d)).append p
  ·by_cases f:j<r.length
   ·rw[aX (by simpa using f),pM,IP f]at d;simp at d;subst d;have:=k 0 r j r[j] rfl (by simp[f]);simpa using this
   ·rw[dY (by simpa using Nat.le_of_not_lt f)]at d;have:=q _ u d;simp at this;rwa[show o+size+(j-r.length)=o+j by omega]at this
theorem zf1(J:Inv B C h w){tx:TypeId}{y:Nat}{str:Bool}{a:AV}{x:Value}{p:List (List AV)}(m:Rel C a x)(f:lZ h str a=some p)(S:dH y p=true)(O:str=true->P.underlying tx=some .string/\y=1)(E:str=false->∃e,P.underlying tx=some (.slice e)):∃v,Src P y tx x p.length v w/\RelL (Cx.pure C.im) p.flatten v:=by
 have z:=tS S;have A:=lR p z;have N:∀(d:List (List AV)),d=p->Rel C (.sl d) x->str=false->∃v,Src P y tx x p.length v w/\RelL (Cx.pure C.im) p.flatten v:=by
  rintro d rfl hr a3;obtain⟨e,g⟩:=E a3;cases hr with
  |slnil=>exact⟨[],Src.ofNil w g 0,.nil⟩|slz a H=>exact⟨[],Src.ofSlice w g a 0 H [] (by simp) (fun j u k=>by simp at k) (fun u g=>by simp at g),.nil⟩|sl _ b o H c1 us Y t W X=>
   obtain⟨l,k1,k2⟩:=QL (size:=y) d o us z (fun i M j c x b2=>by
    have:=W i M j c x b2;rwa[<-t i M x,z M (gJ x)]at this) X;have K:=k1.1;refine⟨l,Src.ofSlice w g ⟨b,o,none⟩ d.length H l (by rw[<-K,A]) (fun j u k=>by rw[Addr.add_lit];exact J.im _ _ _ (k2 j u k)) (fun u g=>?_),k1⟩;obtain⟨j,k⟩:=lM.1 g;exact J.one _ _ _ (k2 j u k)
 cases str with
 |true=>
  simp only[lZ,aM]at f;split at f
  ·rename_i s;cases f;obtain⟨g,rfl⟩:=O rfl;have:=eD m;subst this;refine⟨byteCells ⟨s.toArray⟩,?_,?_,fun i c u q F=>?_⟩
   ·have:=Src.ofString (P:=P) w g ⟨s.toArray⟩;rw[nB]at this;simpa using this
   ·rw[byteCells_length,nB];simpa using A
   ·have Z:(s.map fun b=>([AV.int .u8 b.toNat]:List AV)).flatten=s.map fun b=>AV.int .u8 b.toNat:=by
     clear m S z A q F O E N;induction s with
     |nil=>rfl|cons b s ih=>simp[ih]
    rw[Z,pM]at q;simp only[byteCells,pM]at F;cases T:s[i]? with
    |none=>simp[T]at q|some b=>
     simp[T]at q F;subst q F;exact .int _ _
  ·cases f|false=>
 simp only[lZ,bM,bH]at f;cases a with
 |sl d=>simp only[rowsOf,aE]at f;exact N d f m rfl|tsl d=>simp only[rowsOf,aE]at f;exact N d f (zV0 m) rfl|nils=>
  simp only[rowsOf,aE]at f;subst f;obtain⟨e,g⟩:=E rfl;cases m;exact⟨[],Src.ofNil w g 0,.nil⟩|own l c2 n=>
  simp only[rowsOf]at f;obtain⟨e,g⟩:=E rfl;split at f
  ·rename_i sz c3 d wr K;split at f
   ·rename_i q;obtain⟨rfl,hn⟩:=q;cases f;have L:(d.take n).length=n:=by simp;omega
    cases m with
    |ownnil _ _ t=>simp;exact⟨[],Src.ofNil w g 0,.nil⟩|own _ _ _ r t Y=>
     rcases J.ok l _ K with⟨k1,_⟩|⟨r',I,k1,k2,k3,k4,k5,k6,k7,k8,b1,_⟩;·rw[t]at k1;cases k1
     ·rw[t]at k1;injection k1 with k1;cases k1;have hm:n*r.size<=d.length*r.size:=kH _ hn;have b3:d.length*r.size<=I.size:=by rw[k7];exact kH _ k3
      have a1:(d.take n).flatten=d.flatten.take (n*r.size):=by
       have U:d.flatten=(d.take n).flatten++(d.drop n).flatten:=by rw[<-IM,sO]
       have V:(d.take n).flatten.length=n*r.size:=by rw[lR (n:=r.size) _ (fun x m=>k5 x (sN m)),L]
       conv=>rhs;rw[U,uN,lN (by omega),V,Nat.sub_self]
       simp
      have Q:RelL (Cx.pure C.im) (d.take n).flatten (I.toList.take (n*r.size)):=by
       rw[a1];have:=k8.take (n*r.size);rwa[zK,wN hm]at this
      have a2:=Q.1;rw[L];refine⟨_,Src.ofSlice w g ⟨r.block,0,none⟩ n r.cap (I.toList.take (n*r.size)) (by rw[<-a2,A,L]) (fun j u k=>?_) (fun u g=>b1 u ?_),Q⟩
      ·rw[Addr.add_lit,cell_of_heap k6,eT];rw[fS]at k;split at k;·simpa using k
       ·cases k
      ·obtain⟨j,k⟩:=lM.1 g;rw[fS]at k;split at k;·exact gJ (i:=j) (by rw[fS,if_pos (by omega)];exact k)
       ·cases k
   ·cases f
  ·cases f|_=>simp[rowsOf]at f
theorem xp3{t j p e:TypeId}{i:TypeInfo}(o:P.underlying t=some (.slice e))(l:P.info? e=some i){b:Option Addr}{d c:Nat}{x:Value}{g:List Value}(a:Src P i.size j x 0 g w)(m:d<=c):(Builtin.append_ #[t,j] p #[.slice b d c,x]).run P w=.ok (.slice b d c) w:=by
 have n:g=[]:=uL (by rw[a.newsLen];simp);subst n;have k:=a.cells;rcases a.kind with⟨q,f⟩|f<;>cases b<;>simp[Builtin.append_,run_underlying o,run_underlying f,sizeOf,typeInfo,l,a.len,m,k,storeCells]
theorem xr6{b:Nat}{e:TypeId}{d:Nat×Nat}(c:List Value)(o:Nat)(w:World)(a:Array Value)(f:w.heap[b]?=some (.cells a e d))(g:o+c.length<=a.size):(w.setCells b o c).heap[b]?=some (.cells (a.toList.take o++c++a.toList.drop (o+c.length)).toArray e d):=by
 rw[WT c o a w f g];exact setRow_heap w b a _ e d f
theorem zd7(b:Nat):∀(a:List Value)(o:Nat)(w:World)(k:Nat),k≠b->(w.setCells b o a).heap[k]?=w.heap[k]?
 |[],_,_,_,_=>rfl|v::a,o,w,k,c=>by
  simp only[World.setCells];rw[zd7 b a (o+1) _ k c,heap_setCell_other w ⟨b,o,none⟩ k v c]
theorem setCells_size(b:Nat):∀(a:List Value)(o:Nat)(w:World),(w.setCells b o a).heap.size=w.heap.size
 |[],_,_=>rfl|v::a,o,w=>by simp only[World.setCells];rw[setCells_size b a];simp[World.setCell]
theorem zZ3{b:Nat}(c:B<=b):∀(a:List Value)(o:Nat)(w:World),Keep B w (w.setCells b o a)
 |[],_,w=>Keep.refl _ _|v::a,o,w=>by simp only[World.setCells];exact((Keep.refl _ _).setCell (p:=⟨b,o,none⟩) c v).trans (zZ3 c a (o+1) _)
theorem yM0{t o ty e:TypeId}{i:TypeInfo}{z:Value}(v:P.underlying t=some (.slice e))(s:P.info? e=some i)(y:i.zero=some z)(A:z.cells.size=i.size){j:Option Addr}{a b:Nat}{c:List Value}(hold:(Builtin.firstCells i.size a (.slice j a b)).run P w.drew=.ok c.toArray w.drew)(l:c.length=a*i.size){x:Value}{n:Nat}{g:List Value}(m:Src P i.size o x n g w)(q:b<a+n)(r:(a+n)*i.bytes<=dJ)(u:a+n<=dJ):∃(d:Nat)(k:Array Value),a+n<=d/\d<=maxLen/\k.size=d*i.size/\k.toList.take ((a+n)*i.size)=c++g/\(Builtin.append_ #[t,o] ty #[.slice j a b,x]).run P w=.ok (.slice (some ⟨w.heap.size,0,none⟩) (a+n) d) (w.drew.alloc (.cells k e)):=by
 have p:a+n<=maxLen:=by unfold dJ at u;unfold maxLen;omega
 refine⟨grownCap w (a+n) b e,((c++g).toArray++Builtin.zeroCells z.cells (grownCap w (a+n) b e-(a+n))),grownCap_ge w _ _ _,grownCap_le_maxLen w _ _ _ p,?_,?_,run_append_grow_src w t o ty e i z v s y j a b c hold x n g m q (by unfold maxLen at p;omega) (growslice_fits q r)⟩
 ·have E:=grownCap_ge w (a+n) b e;have f:=m.newsLen;rw[Array.size_append,size_zeroCells,A];simp only[List.size_toArray,iS,l,f];rw[<-gL,<-gL];congr 1;omega
 ·have f:=m.newsLen;rw[Array.toList_append];simp only;rw[uN,lN (by rw[iS,l,f,gL];exact bP _)];rw[iS,l,f,<-gL,Nat.sub_self];simp
theorem sR(w:World)(o:Obj):Below w.heap.size w (w.drew.alloc o):=(WC w).alloc (bP _) o
theorem zo3(g:Inv B C h w){t Z ty e:TypeId}{n bytes:Nat}{s1:List AV}(H:P.underlying t=some (.slice e))(hn:dU P e=some n)(X:vP P e=some bytes)(hz:kC P e=some s1)(G2:s1.length=n){m1 d1 d3:AV}{z x:Value}{h':aA}{c:List (List AV)}{m3:Bool}(Q:Rel C m1 z)(hx:Rel C d1 x)(ha:lZ h m3 d1=some c)(p2:dH n c=true)(w1:m3=true->P.underlying Z=some .string/\n=1)(w2:m3=false->∃e,P.underlying Z=some (.slice e)){te:Option TypeId}(l3:BN te e)(d:nH te n bytes h m1 c=some (d3,h')):∃u D w',(Builtin.append_ #[t,Z] ty #[z,x]).run P w=.ok u w'/\C.Le D/\Inv B D h' w'/\Rel D d3 u/\Keep B w w':=by
 obtain⟨i,zv,g2,z2,y3⟩:=GN (C:=C) hz;have Y:i.size=n:=by simpa[dU,g2]using hn
 have u2:i.bytes=bytes:=by simpa[vP,g2]using X
 have z1:zv.cells.size=i.size:=by have:=y3.1;simp at this;omega
 obtain⟨S,d2,o3⟩:=zf1 g hx ha p2 w1 w2;rw[<-Y]at d2;have x2:=d2.newsLen;have n3:=tS p2;have g1:∀(p:c=[])(s:Option Addr)(m2 y:Nat),z=.slice s m2 y->m2<=y->(Builtin.append_ #[t,Z] ty #[z,x]).run P w=.ok z w:=by
  rintro rfl s m2 y rfl w3;exact xp3 H g2 d2 w3
 have n2:∀a:List (List AV),(a++c).flatten=a.flatten++c.flatten:=fun a=>IM;have j2:∀(a:List (List AV))(s:Option Addr)(y:Nat)(m:List Value),z=.slice s a.length y->y<a.length+c.length->(∀q∈a,q.length=n)->m.length=a.length*n->RelL (Cx.pure C.im) a.flatten m->(∀u∈m,u.oneCell'=true)->(Builtin.firstCells n a.length (.slice s a.length y)).run P w.drew=.ok m.toArray w.drew->(a.length+c.length)*bytes<=dJ->a.length+c.length<=dJ->∃(N:Nat)(f:Array Value),a.length+c.length<=N/\N<=maxLen/\f.size=N*n/\(∀q∈a++c,q.length=n)/\RelL (Cx.pure C.im) (a++c).flatten (f.toList.take ((a++c).length*n))/\(∀u∈f.toList.take ((a++c).length*n),u.oneCell'=true)/\(Builtin.append_ #[t,Z] ty #[z,x]).run P w=.ok (.slice (some ⟨w.heap.size,0,none⟩) (a.length+c.length) N) (w.drew.alloc (.cells f e)):=by
  rintro a s y m rfl hg e3 i1 y2 y1 hold hB hM;obtain⟨N,f,T,a2,U,M,V⟩:=yM0 (P:=P) (w:=w) (ty:=ty) H g2 z2 z1 (by rw[Y];exact hold) (by rw[Y];exact i1) d2 hg (by rw[u2];exact hB) hM;rw[Y]at U M;refine⟨N,f,T,a2,U,fun q L=>?_,?_,fun u k=>?_,V⟩
  ·rcases iK.1 L with L|L;·exact e3 q L
   ·exact n3 q L
  ·rw[iS,M,n2];exact y2.append o3
  ·rw[iS,M]at k;rcases iK.1 k with k|k;·exact y1 u k
   ·exact d2.one u k
 cases m1 with
 |nils=>
  cases Q;simp only[nH]at d;split at d
  ·rename_i p;injection d with d;injection d with F J;subst F J;exact⟨_,C,w,g1 p none 0 0 rfl (bP _),.refl C,g,.nils,.refl _ _⟩
  ·rename_i p;split at d
   ·rename_i O;injection d with d;injection d with F J;subst F J;have i2:0<c.length:=zH.2 p;obtain⟨N,f,T,a2,U,M,V,a6,a7⟩:=j2 [] none 0 [] rfl (by simpa using i2) (by simp) (by simp) .nil (by simp) (by simpa using run_firstCells_none (P:=P) w.drew n 0 0 0) (by simpa using O.1) (by simpa using O.2);simp only[jU,kN,eT]at T M V a6 a7;obtain⟨b1,W,b3⟩:=VM g (sR w (.cells f e)) (by simpa[RowAt.fz]using oN w.drew (.cells f e)) T a2 M U V a6 ⟨l3,fun _=>p⟩;exact⟨_,_,_,a7,b3,b1,W,jK g (sR w _)⟩
   ·cases d|tsl a=>
  simp only[nH]at d;split at d
  ·rename_i p;injection d with d;injection d with F J;subst F J;refine⟨z,C,w,?_,.refl C,g,Q,.refl _ _⟩;cases Q with
   |tslnil=>exact g1 p none 0 0 rfl (bP _)|tslz d1=>exact g1 p (some d1) 0 0 rfl (bP _)|tsl _ b o B1 us v h2 h3=>exact g1 p _ _ _ rfl (bP _)
  ·rename_i p;split at d
   ·rename_i O;obtain⟨c1,c2,c3⟩:=O;injection d with d;injection d with F J;subst F J;have i2:0<c.length:=zH.2 p;have e3:=tS c3;have A1:∃s m,z=.slice s a.length a.length/\m.length=a.length*n/\RelL (Cx.pure C.im) a.flatten m/\(∀u∈m,u.oneCell'=true)/\(Builtin.firstCells n a.length (.slice s a.length a.length)).run P w.drew=.ok m.toArray w.drew:=by cases Q with
     |tslnil=>exact⟨none,[],rfl,by simp,.nil,by simp,by simpa using run_firstCells_none (P:=P) w.drew n 0 0 0⟩|tslz d1=>exact⟨some d1,[],rfl,by simp,.nil,by simp,by simpa using run_firstCells_some (P:=P) w.drew n 0 d1 0 0 [] (by simp) (fun j u I=>by simp at I)⟩|tsl _ b o B1 us v h2 h3=>
      obtain⟨l,k1,k2⟩:=QL (size:=n) a o us e3 (fun i q j s2 x D1=>by
       have:=h2 i q j s2 x D1;rwa[<-v i q x,e3 q (gJ x)]at this) h3;have g3:=k1.1;rw[lR a e3]at g3;refine⟨_,l,rfl,g3.symm,k1,fun u k=>?_,run_firstCells_some w.drew n a.length ⟨b,o,none⟩ a.length a.length l g3.symm (fun j u I=>by rw[Addr.add_lit];simpa using g.im _ _ _ (k2 j u I))⟩;obtain⟨j,I⟩:=lM.1 k;exact g.one _ _ _ (k2 j u I)
    obtain⟨s,m,q1,q2,q3,q4,q5⟩:=A1;obtain⟨N,f,T,a2,U,M,V,a6,a7⟩:=j2 a s a.length m q1 (by omega) e3 q2 q3 q4 q5 c1 c2;obtain⟨b1,W,b3⟩:=VM g (sR w (.cells f e)) (by simpa[RowAt.fz]using oN w.drew (.cells f e)) (by rw[iS];exact T) a2 M U V a6 ⟨l3,fun _ e=>p (List.append_eq_nil_iff.1 e).2⟩;rw[iS]at W;exact⟨_,_,_,a7,b3,b1,W,jK g (sR w _)⟩
   ·cases d|own l E r2=>
  simp only[nH]at d;split at d
  ·rename_i tg A G3 a wr hl;split at d
   ·rename_i O;obtain⟨rfl,rfl,rfl,rfl⟩:=O;split at d
    ·rename_i p;injection d with d;injection d with F J;subst F J;refine⟨z,C,w,?_,.refl C,g,Q,.refl _ _⟩;generalize hm:a.length=r2 at Q;cases Q with
     |ownnil _ _ v=>exact g1 p none 0 0 rfl (bP _)|own _ _ _ r v v1=>exact g1 p _ _ _ rfl v1
    ·rename_i p;split at d
     ·rename_i O;obtain⟨c1,c2⟩:=O;injection d with d;injection d with F J;subst F J;have i2:0<c.length:=zH.2 p;have v2:C.ar l (E+c.length)=none:=g.fv l _ _ _ E a true hl (E+c.length) (by omega);have g3:l<h.length:=(aF.1 hl).1;have n1:∀(r:RowAt)(f:Array Value)(w':World),r.size=A->a.length+c.length<=r.cap->r.cap<=maxLen->(∀q∈a++c,q.length=A)->w'.heap[r.block]?=some (.cells f r.elem r.fz)->f.size=r.cap*A->B<=r.block->RelL (Cx.pure C.im) (a++c).flatten (f.toList.take ((a++c).length*A))->(∀u∈f.toList.take ((a++c).length*A),u.oneCell'=true)->(∀o,C.im r.block o=none)->BN (sA tg te) r.elem->(∀b,aU C l (.arrT tg A E a true)≠some b->b<w.heap.size->w'.heap[b]?=w.heap[b]?)->(aU C l (.arrT tg A E a true)=some r.block\/w.heap.size<=r.block)->w.heap.size<=w'.heap.size->(∀b o u,C.im b o=some u->w'.cell? ⟨b,o,none⟩=some u)->∃D,C.Le D/\Inv B D (h.set l (.arrT (sA tg te) A (E+c.length) (a++c) true)) w'/\Rel D (.own l (E+c.length) (a.length+c.length)) (.slice (some ⟨r.block,0,none⟩) (a.length+c.length) r.cap):=by
       intro r f w' F f1 f2 f3 f4 f5 f6 f7 f8 f9 u1 s3 t1 t2 t3;subst F;have he:=KD (w:=w) (some r) v2;have j3:(C.addAr l (E+c.length) (some r)).ar l (E+c.length)=some (some r):=by simp[Cx.addAr]
       refine⟨C.addAr l (E+c.length) (some r),he.le,?_,.own _ _ _ r j3 f1⟩;refine g.turn hl he.le t2 (fun b X l1=>⟨s3 b X l1,fun _=>rfl⟩) t3 g.one ?_ (fun b X=>?_) (fun j1 K=>?_) (fun j1 A2 B3 B2 C2 A3 C3 K d3 hv=>?_);·exact .inr ⟨r,f,j3,f6,by simpa using f1,f2,f3,f4,f5,f7,f8,fun _ o=>f9 o,(fun e=>by cases e),rfl,u1,fun _ e=>p (List.append_eq_nil_iff.1 e).2⟩
       ·simp only[aU,j3,aE]at X;subst X;exact t1
       ·have:=g.fr j1 K;refine⟨this.1,fun d3=>?_⟩;simp only[Cx.addAr];rw[if_neg (by omega)];exact this.2 d3
       ·simp only[Cx.addAr];rw[iZ]at K;by_cases ek:l=j1
        ·subst ek;rw[if_pos rfl,if_pos g3]at K;injection K with K;injection K with E2 E1 D3 K;subst K;rw[if_neg (by omega)];exact g.fv l _ _ _ E a true hl d3 (by omega)
        ·rw[if_neg ek]at K;rw[if_neg (fun x=>ek x.1.symm)];exact g.fv j1 A2 B3 B2 C2 A3 C3 K d3 hv
      have z3:BN (sA tg te) e:=fun t H=>by
       unfold sA at H;split at H;·exact l3 t H
       ·cases H
      have C1:∀o,C.im w.heap.size o=none:=fun o=>by cases O:C.im w.heap.size o with
       |none=>rfl|some u=>have:=rA (g.im _ _ _ O);omega
      have r3:∀(s:Option Addr)(y:Nat)(m:List Value),z=.slice s a.length y->y<a.length+c.length->(∀q∈a,q.length=A)->m.length=a.length*A->RelL (Cx.pure C.im) a.flatten m->(∀u∈m,u.oneCell'=true)->(Builtin.firstCells A a.length (.slice s a.length y)).run P w.drew=.ok m.toArray w.drew->∃u D w',(Builtin.append_ #[t,Z] ty #[z,x]).run P w=.ok u w'/\C.Le D/\Inv B D (h.set l (.arrT (sA tg te) A (E+c.length) (a++c) true)) w'/\Rel D (.own l (E+c.length) (a.length+c.length)) u/\Keep B w w':=by
       intro s y m q1 q2 q3 q4 q5 q6 q7;obtain⟨N,f,T,a2,U,M,V,a6,a7⟩:=j2 a s y m q1 q2 q3 q4 q5 q6 q7 c1 c2;obtain⟨D,b1,W,b3⟩:=n1 ⟨w.heap.size,N,A,e,false⟩ f _ rfl T a2 M (by simpa[RowAt.fz]using oN w.drew (.cells f e)) U g.hB V a6 C1 (z3) (fun b _ l1=>(sR w (.cells f e)).block b l1) (.inr (bP _)) (sR w (.cells f e)).size (vA g (sR w _));exact⟨_,D,_,a7,b1,W,b3,jK g (sR w _)⟩
      rcases g.ok l _ hl with⟨k1,k2⟩|⟨r,f,k1,k2,k3,k4,k5,k6,k7,k8,r1,k9,k10,k11⟩;·
       subst k2;have i3:z=.slice none 0 0:=by cases Q with
        |ownnil _ _ _=>rfl|own _ _ _ r v _=>rw[k1]at v;cases v
       exact r3 none 0 [] i3 (by simpa using i2) (by simp) (by simp) .nil (by simp) (by simpa using run_firstCells_none (P:=P) w.drew A 0 0 0)
      ·obtain⟨k11,k12⟩:=k11;subst k11;have i3:z=.slice (some ⟨r.block,0,none⟩) a.length r.cap:=by
        generalize a.length=r2 at Q;cases Q with
        |ownnil _ _ v=>rw[k1]at v;cases v|own _ _ _ r' v _=>rw[k1]at v;injection v with v;cases v;rfl
       have o1:aU C l (.arrT tg r.size E a true)=some r.block:=by simp[aU,k1]
       have E3:a.length*r.size<=f.size:=by rw[k7];exact kH _ k3
       have D2:=lR a k5;by_cases l2:a.length+c.length<=r.cap;·
        have o2:(a.length+c.length)*r.size<=f.size:=by rw[k7];exact kH _ l2
        have G1:S.length=c.length*r.size:=by rw[x2,Y]
        rw[gL]at o2;have x3:Src P i.size Z x c.length S w:=d2;have p1:=run_append_room_src (P:=P) w t Z ty e i H g2 r.block 0 a.length r.cap x c.length S x3 l2 (fun j I=>by rw[cell_of_heap k6,Y];simp;omega) (fun j I=>by rw[Y];exact RowAt.thaw k6 (by rw[k7]at o2;omega));rw[eT,Y]at p1;have v3:=xr6 S (a.length*r.size) w f k6 (by omega);have p3:((f.toList.take (a.length*r.size)++S++f.toList.drop (a.length*r.size+S.length)).toArray).toList.take ((a++c).length*r.size)=f.toList.take (a.length*r.size)++S:=by
         simp only;rw[List.take_append_of_le_length (by simp;rw[gL];omega),lN (by simp;rw[gL];omega)]
        obtain⟨D,b1,W,b3⟩:=n1 r _ _ rfl l2 k4 (fun q L=>by
          rcases iK.1 L with L|L;·exact k5 q L
          ·exact n3 q L) v3 (by simp;omega) k2 (by rw[p3,n2];exact k8.append o3) (fun u k=>by
          rw[p3]at k;rcases iK.1 k with k|k;·exact r1 u k
          ·exact d2.one u k) (k9 rfl) (fun t H=>by
          unfold sA at H;split at H;·rename_i he;exact k12.1 t (by rw[he];exact H)
          ·cases H) (fun b X _=>zd7 r.block S _ w b (fun e=>X (by rw[o1,e]))) (.inl o1) (by rw[setCells_size];exact bP _) (fun b o u k=>by
          have x1:b≠r.block:=fun e=>by subst e;rw[k9 rfl o]at k;cases k
          have:=g.im _ _ _ k;simp only[World.cell?]at this⊢;rw[zd7 r.block S _ w b x1];exact this);exact⟨_,D,_,by rw[i3];exact p1,b1,W,b3,zZ3 k2 _ _ _⟩
       ·have i1:(f.toList.take (a.length*r.size)).length=a.length*r.size:=by simp;omega
        exact r3 (some ⟨r.block,0,none⟩) r.cap (f.toList.take (a.length*r.size)) i3 (by omega) k5 i1 k8 r1 (run_firstCells_some w.drew r.size a.length ⟨r.block,0,none⟩ a.length r.cap _ i1 (fun j u I=>by
          rw[Addr.add_lit,World.cell?_drew,cell_of_heap k6,eT];rw[fS]at I;split at I;·simpa using I
          ·cases I))
     ·cases d
   ·cases d
  ·cases d|_=>simp[nH]at d
end
section
variable{P:Program}{B:Base}{C D:Cx}{h:aA}{w w':World}{G:Gam}
def World.put(w:World)(b:Nat)(o:Obj):World:={w with heap:=w.heap.setIfInBounds b o}
theorem vK{b:Nat}{o c:Obj}(a:w.heap[b]?=some c):(World.put w b o).heap[b]?=some o:=by simp[World.put,fM a]
theorem FW{b k:Nat}{o:Obj}(a:k≠b):(World.put w b o).heap[k]?=w.heap[k]?:=by
 simp only[World.put,Array.getElem?_setIfInBounds];rw[if_neg (fun e=>a e.symm)]
theorem zb7{b:Nat}{o:Obj}:(World.put w b o).heap.size=w.heap.size:=by simp[World.put]
theorem tN{b:Nat}{o d:Obj}(i:B<=b)(g:w.heap[b]?=some d)(f:∀c,d≠.deferred c):Keep B w (World.put w b o):=⟨⟨rfl,rfl,rfl,by rw[zb7];exact bP _,fun k a=>FW (by omega)⟩,fun k c a=>by
 by_cases e:k=b;·subst e;rw[g]at a;injection a with a;exact absurd a (f c)
 ·rw[FW e];exact a⟩
theorem zT4{b k o:Nat}{x:Obj}{u:Value}(c:k≠b)(a:w.cell? ⟨k,o,none⟩=some u):(World.put w b x).cell? ⟨k,o,none⟩=some u:=by
 simp only[World.cell?]at a⊢;rw[FW c];exact a
theorem tU(g:Inv B C h w){l b:Nat}{t i:Blk}{o y:Obj}(A:h[l]?=some t)(N:C.bl l=some b)(x:aU C l t=some b)(I:w.heap[b]?=some o)(F:∀c e f,o≠.cells c e f)(M:B<=b)(J:BlkOK B C (World.put w b y) l i)(z:∀d,aU C l i=some d->d=b)(E:∀n tg q r p s,i≠.arrX n tg q r p s):Inv B C (h.set l i) (World.put w b y):=by
 refine g.turn A (.refl C) (by rw[zb7];exact bP _) (fun d j _=>⟨FW (fun e=>j (by rw[x,e])),fun _=>rfl⟩) (fun d O u K=>?_) g.one J (fun d j=>.inl (by rw[x,z d j])) g.fr (fun k n tg q r p s a v L=>?_)
 ·have m:=g.im _ _ _ K;have H:d≠b:=fun e=>by
   subst e;simp only[World.cell?,I]at m;cases o<;>simp at m;rename_i c e f;exact F c e f rfl
  exact zT4 H m
 ·rw[iZ]at a;split at a
  ·split at a;·injection a with a;exact absurd a (E _ _ _ _ _ _)
   ·cases a
  ·exact g.fv k n tg q r p s a v L
theorem YT{e:EK}{k:AV}{y:Value}(h:isKey e k=true)(a:Rel C k y):Rel D k y:=by
 cases e<;>cases k<;>simp only[isKey]at h<;>(first|cases h|skip);·rw[jG a];exact .bool _
 ·rw[dK a];exact .int _ _
 ·rw[eD a];exact .str _
def ym6(e:EK)(d:TypeDesc):Prop:=match e with|.s=>d=.string|.i=>∃q,d=.int q|.b=>d=.bool
theorem zJ3{a:TypeId}{e:EK}(h:xF P a=some e):∃d,P.underlying a=some d/\ym6 e d:=by
 obtain⟨d,b,c⟩:=yW2 h;exact⟨d,b,by cases e<;>exact c⟩
theorem zN8(hi:Inv B C h w){t Z et:TypeId}{e:EK}(X:P.underlying t=some (.map Z et))(hk:xF P Z=some e){l:Nat}{k v c1:AV}{c2 y z:Value}{I:aA}{g H:List (AV×AV)}(hx:Rel C (.map l) c2)(hy:Rel C k y)(hz:Rel C v z)(e2:isKey e k=true)(hf:frz h v=some (c1,I))(K:I[l]?=some (.map g))(hp:tG e k c1 g=some H):∃D w',(Instr.mapUpdate t c2 y z).run P w=.ok () w'/\C.Le D/\Inv B D (I.set l (.map H)) w'/\Keep B w w':=by
 obtain⟨D,T,F,U,V,d5⟩:=tA hi hf hz;obtain⟨d,u,hd⟩:=zJ3 hk;have J:(match(generalizing:=false)e with|.s=>d=.string|.i=>∃q,d=.int q|.b=>d=.bool):=by cases e<;>exact hd
 cases hx with|map _ b W=>
  obtain⟨S,s,o,M,n,a,N,O,Q,x⟩:=F.ok l _ K;rw[V,W]at M;cases M;have f:D.bl l=some b:=by rw[V];exact W
  have Y:Rel (Cx.pure D.im) k y:=YT e2 hy;have e3:g.length=s.toList.length:=by simpa using N
  rcases zO4 J Y U g s.toList 0 H e3 (fun i k v m p q=>O i k v m p (by simpa using q)) hp with⟨i,u0,key,A,E,b3,b4,b5,b6⟩|⟨A,E⟩
  ·have L:(Instr.mapUpdate t (.map (some b)) y z).run P w=.ok () (World.put w b (.map (s.modify i fun m=>{m with key:=y,val:=z}) o)):=by
    have hg:(s[i]?).map (·.key)=some key:=by simpa using E
    simp only[Instr.mapUpdate,Sem.run_bind,run_underlying X,Result.andThen_ok,getObj,Sem.run,a,run_checkKey J u,Instr.findKey,run_underlying u,A,Sem.run_pure,eT];simp[hg,Instr.keyThatStays,b3,setObj,Sem.run,a,World.put]
   refine⟨D,_,L,T,tU F K f (by simp[aU,f]) a (fun c e c3=>by simp) n ?_ (fun S r=>by simp[aU,f]at r;exact r.symm) (fun _ _ _ _=>by simp),tN n a (fun c=>by simp)⟩;refine⟨b,_,o,f,n,vK a,?_,(fun j k v m p q=>?_),by simpa using Q,fun j m q=>?_⟩;·simpa using b5
   ·refine b6 j k v m p ?_;rw[<-Array.toList_modify,uJ];exact q
   ·rw[wH]at q;split at q
    ·simp only[bS]at q;obtain⟨m0,q1,rfl⟩:=q;exact x j m0 q1
    ·exact x j m q
  ·subst E;have L:(Instr.mapUpdate t (.map (some b)) y z).run P w=.ok () (World.put w b (.map (s.push {key:=y,val:=z,born:=o}) (o+1))):=by
    simp only[Instr.mapUpdate,Sem.run_bind,run_underlying X,Result.andThen_ok,getObj,Sem.run,a,run_checkKey J u,Instr.findKey,run_underlying u,A,Sem.run_pure];simp[setObj,Sem.run,a,World.put]
   refine⟨D,_,L,T,tU F K f (by simp[aU,f]) a (fun c e c3=>by simp) n ?_ (fun S r=>by simp[aU,f]at r;exact r.symm) (fun _ _ _ _=>by simp),tN n a (fun c=>by simp)⟩;refine⟨b,_,o+1,f,n,vK a,by simp[N],(fun j k' v' m p q=>?_),by simp[Q],fun j m q=>?_⟩;rotate_left
   ·rw[sK]at q;split at q
    ·rename_i e;cases q;show o=j;omega
    ·exact x j m q
   by_cases hj:j<g.length
   ·rw[aX hj]at p;rw[sK,if_neg (by omega)]at q;exact O j k' v' m p q
   ·rw[dY (by omega)]at p;have e1:j-g.length=0:=by
     rcases DF (j-g.length)with e|e;·exact e
     ·rw[lX (by simp;omega)]at p;cases p
    rw[e1]at p;simp at p;obtain⟨rfl,rfl⟩:=p;rw[sK,if_pos (by omega)]at q;cases q;exact⟨Y,U⟩
theorem xH3{e:TypeId}{z:List AV}(b:kC P e=some z):z.all bE=true:=by
 unfold kC at b;cases g:P.info? e with
 |none=>simp[g]at b|some i=>cases j:i.zero with
  |none=>simp[g,j]at b|some n=>
   simp[g,j]at b;have:∀(d:List Value)(c:List AV),tH d=some c->c.all bE=true:=by
    intro d;induction d with
    |nil=>intro c h;simp[tH]at h;subst h;rfl|cons v d m=>
     intro c h;simp only[tH]at h;split at h
     ·rename_i a k f l;cases h;simp only[sL,m k l,Bool.and_true];unfold LM at f;split at f<;>(first|cases f|skip)<;>rfl
     ·cases h
   exact this _ _ b
theorem xH4{e:TypeId}{z:List AV}(b:kC P e=some z)(I:Nat->Nat->Option Value):∃i a,P.info? e=some i/\i.zero=some a/\RelL (Cx.pure I) z a.cells.toList:=GN b
theorem yZ1(z:Array Value)(n:Nat)(f:0<z.size):(madeCells z (n*z.size)).toList=(List.replicate n z.toList).flatten:=by
 apply kL;intro k;by_cases b:k<n*z.size
 ·have e:k/z.size<n:=Nat.div_lt_of_lt_mul (by rwa[Nat.mul_comm]at b);have a:k%z.size<z.size:=Nat.mod_lt _ f;have d:(madeCells z (n*z.size)).toList[k]?=some z[k%z.size]:=by
   simp[madeCells,b];rw[kO z (k%z.size) a]
  rw[d];have i:∀(n q r:Nat),q<n->r<z.size->((List.replicate n z.toList).flatten)[q*z.size+r]?=z.toList[r]?:=by
   intro n;induction n with
   |zero=>intro q r h;omega|succ n g=>
    intro q r h c;rw[List.replicate_succ,oF];cases q with
    |zero=>rw[aX (by simpa using c)];simp|succ q=>
     rw[dY (by simp;rw[gL];omega)];simp only[Array.length_toList];rw[show(q+1)*z.size+r-z.size=q*z.size+r by rw[gL];omega];exact g q r (by omega) c
  have:=i n (k/z.size) (k%z.size) e a;rw[Nat.mul_comm,Nat.div_add_mod]at this;rw[this];simp[a]
 ·rw[lX (by simp[madeCells];omega),lX (by simp;omega)]
theorem xa2(N:Inv B C h w){t e:TypeId}{z:List AV}{bytes n:Nat}(U:P.underlying t=some (.slice e))(q:kC P e=some z)(I:vP P e=some bytes)(Q:dU P e=some n)(r:z.length=n)(X:0<n){k1 k2:IntKind}{l c:Int}(A:0<=l)(E:l<=c)(F:c.toNat*bytes<=dJ)(g:c.toNat<=dJ):∃D,(Instr.makeSlice t (.int k1 l) (.int k2 c)).run P w=.ok (.slice (some ⟨w.heap.size,0,none⟩) l.toNat c.toNat) (w.alloc (.cells (madeCells (((P.info? e).bind (·.zero)).getD undef).cells (c.toNat*n)) e))/\C.Le D/\Inv B D (h++[.arr z.length 0 (List.replicate l.toNat z) true]) (w.alloc (.cells (madeCells (((P.info? e).bind (·.zero)).getD undef).cells (c.toNat*n)) e))/\Rel D (.own h.length 0 l.toNat) (.slice (some ⟨w.heap.size,0,none⟩) l.toNat c.toNat):=by
 obtain⟨i,a,b,v,d⟩:=xH4 q C.im;have T:i.size=n:=by simpa[dU,b]using Q
 have K:i.bytes=bytes:=by simpa[vP,b]using I
 have s:a.cells.size=n:=by have:=d.1;simp at this;omega
 have V:(((P.info? e).bind (·.zero)).getD undef)=a:=by simp[b,v]
 rw[V];have J:(i.bytes:Int)*c<=281474976710656:=by
  rw[K];unfold dJ at F;have L:c=(c.toNat:Int):=by omega
  rw[L,<-Int.natCast_mul,Nat.mul_comm];omega
 have k:=run_make (P:=P) w t e i a U b v k1 k2 l c A E J (by unfold dJ at g;omega);rw[T]at k;have M:∀m,RelL (Cx.pure C.im) (List.replicate m z).flatten (List.replicate m a.cells.toList).flatten:=by
  intro m;induction m with
  |zero=>exact .nil|succ m W=>rw[List.replicate_succ,List.replicate_succ,oF,oF];exact d.append W
 have O:(madeCells a.cells (c.toNat*n)).toList=(List.replicate c.toNat a.cells.toList).flatten:=by rw[<-s];exact yZ1 _ _ (by omega)
 have o:(madeCells a.cells (c.toNat*n)).toList.take (l.toNat*n)=(List.replicate l.toNat a.cells.toList).flatten:=by
  rw[O,show c.toNat=l.toNat+(c.toNat-l.toNat)by omega,<-List.replicate_append_replicate,IM];have Y:((List.replicate l.toNat a.cells.toList).flatten).length=l.toNat*n:=by simp[s]
  rw[List.take_append_of_le_length (by omega),lN (by omega)]
 obtain⟨x,f,y⟩:=OJ N (rows:=List.replicate l.toNat z) (cap:=c.toNat) (size:=n) (e:=e) (cur:=madeCells a.cells (c.toNat*n)) (gY w _) (oN w _) (by simp;omega) (by unfold dJ at g;unfold maxLen;omega) (fun a1 S=>by rw[List.eq_of_mem_replicate S];exact r) (by rw[size_madeCells]) (by rw[List.length_replicate,o];exact M _) (fun u p=>by
   rw[List.length_replicate,o]at p;obtain⟨Z,H,j⟩:=List.mem_flatten.1 p;rw[List.eq_of_mem_replicate H]at j;exact EZ d (xH3 q) u j);rw[List.length_replicate]at f;exact⟨_,k,y,by rw[r];exact x,f⟩
end
section
variable{P:Program}{B:Base}{C D:Cx}{h:aA}{w w':World}{G:Gam}
def vN(n:Nat):Nat->Option (Nat×Nat):=fun i=>some (i*n,n)
theorem WG{n:Nat}(e:0<n):∀(a:List AV)(b:List AV)(k:Nat),b.length=k*n->dH n (a.map AV.cells)=true->eB (b++List.replicate (a.length*n) AV.junk) ((List.range' k a.length).map fun i=>(i*n,n)) a=some (b++(a.map AV.cells).flatten)
 |[],b,k,_,_=>by simp[eB]|v::a,b,k,c,f=>by
  simp only[fE,dH,bR,fD]at f;obtain⟨d,l⟩:=f;rw[jA,List.range'_succ,fE];simp only[eB];rw[if_pos ⟨d,e,by simp[c];rw[gL];omega⟩];rw[tR _ _ _ (by simp[c,d];rw[gL];omega)];have g:(b++List.replicate ((a.length+1)*n) AV.junk).take (k*n)=b:=by rw[<-c];simp
  have j:(b++List.replicate ((a.length+1)*n) AV.junk).drop (k*n+v.cells.length)=List.replicate (a.length*n) AV.junk:=by
   rw[IK,OL (by omega),c,List.drop_replicate,d];rw[show(a.length+1)*n-(k*n+n-k*n)=a.length*n by rw[gL];omega];simp
  rw[g,j];have:=WG e a (b++v.cells) (k+1) (by rw[iS,c,d,gL];omega) l;rw[this];simp
theorem zb5{n:Nat}:∀(a:List (Nat×Operand)),placesOf (vN n) a=some (a.map fun p=>(p.1*n,n))
 |[]=>rfl|(i,x)::r=>by simp[placesOf,vN,zb5 r]
theorem zJ2{n:Nat}{b:List Value}(h:b.length=n):RelL C (List.replicate n .junk) b:=⟨by simp[h],fun i c v a _=>by
 rw[List.getElem?_replicate]at a;split at a;·cases a;exact .junk v
 ·cases a⟩
theorem run_buildSlice{t e:TypeId}{i:TypeInfo}{z:Value}(n:P.underlying t=some (.slice e))(k:P.info? e=some i)(o:i.zero=some z){b:Nat}(q:b*i.size<=16777216){l:Array (Nat×Value)}{Q:Array Value->Prop}(g:∀d:Array Value,d.size=b*i.size->∃a,Instr.fill (vN i.size) d l.toList=some a/\Q a)(w:World):∃a,Q a/\(Instr.buildSlice t b l).run P w=.ok (.slice (some ⟨w.heap.size,0,none⟩) b b) (w.alloc (.cells a e)):=by
 have m:(sizeOf e).run P w=.ok i.size w:=jC (by simp[dU,k]) w;have p:(zeroValue e).run P w=.ok z w:=by simp[zeroValue,typeInfo,k,o]
 simp only[Instr.buildSlice,Sem.run_bind,run_underlying n,Result.andThen_ok,m];rw[if_neg (by omega)];by_cases f:b*i.size=0
 ·obtain⟨a,this,c⟩:=g ((Array.range (b*i.size)).map fun j=>(#[]:Array Value)[j%(#[]:Array Value).size]!) (by simp);refine⟨a,c,?_⟩;unfold vN at this;simp only[if_pos f,Sem.run_bind,Sem.run_pure,Result.andThen_ok];rw[this];simp[newRow]
 ·obtain⟨a,this,c⟩:=g ((Array.range (b*i.size)).map fun j=>z.cells[j%z.cells.size]!) (by simp);refine⟨a,c,?_⟩;unfold vN at this;simp only[if_neg f,Sem.run_bind,p,Sem.run_pure,Result.andThen_ok];rw[this];simp[newRow]
theorem zR3{a:List (Nat×Operand)}{b n:Nat}(c:a.map (·.1)=List.range b):a.map (fun p=>(p.1*n,n))=(List.range' 0 a.length).map fun i=>(i*n,n):=by
 have d:a.length=b:=by have:=congrArg List.length c;simpa using this
 have:(a.map (·.1)).map (fun i=>(i*n,n))=(List.range b).map fun i=>(i*n,n):=by rw[c]
 rw[List.map_map]at this;rw[d,<-List.range_eq_range'];exact this
theorem ZZ:∀{a:List (List AV)},nN a=true->a.flatten.all bE=true
 |[],_=>rfl|r::b,h=>by
  simp only[nN,bR]at h;rw[oF,List.all_append,h.1,ZZ h.2];rfl
theorem BF{n:Nat}:∀{c:List (List AV)},dH n c=true->∀b∈c,b.length=n
 |[],_,b,a=>by simp at a|r::d,h,b,a=>by
  simp only[dH,bR,fD]at h;rcases dD.1 a with rfl|a;·exact h.1
  ·exact BF h.2 b a
theorem zm8(m:Inv B C h w){g:List (List AV)}{a:Array Value}{e:TypeId}{n:Nat}(y:∀d∈g,d.length=n)(H:RelL (Cx.pure C.im) g.flatten a.toList)(F:∀u∈a.toList,u.oneCell'=true):∃D,C.Le D/\Inv B D h (w.alloc (.cells a e))/\Rel D (.tsl g) (.slice (some ⟨w.heap.size,0,none⟩) g.length g.length):=by
 have E:∀o,C.im w.heap.size o=none:=fun o=>by cases f:C.im w.heap.size o with
  |none=>rfl|some u=>have:=rA (m.im _ _ _ f);omega
 have r:C.Le (C.withRow w.heap.size a.size a):=⟨fun b o v x=>by
  show(if b=w.heap.size/\o<a.size then a[o]? else C.im b o)=some v;rw[if_neg (fun e=>by rw[e.1,E]at x;cases x)];exact x,fun _ _ x=>x,fun _ _ _ x=>x⟩;have A:∀b o,b<w.heap.size->(C.withRow w.heap.size a.size a).im b o=C.im b o:=fun b o I=>by
  show(if b=w.heap.size/\o<a.size then a[o]? else C.im b o)=_;rw[if_neg (fun e=>by omega)]
 have t:∀b o u,(C.withRow w.heap.size a.size a).im b o=some u->(b=w.heap.size/\a[o]?=some u)\/C.im b o=some u:=fun b o u q=>by
  have s:(if b=w.heap.size/\o<a.size then a[o]? else C.im b o)=some u:=q;split at s;·rename_i e;exact .inl ⟨e.1,s⟩
  ·exact .inr s
 refine⟨C.withRow w.heap.size a.size a,r,?_,?_⟩
 ·refine m.extend ⟨r,A⟩ (gY w _) (fun b o u q=>?_) (fun b o u q=>?_) m.fr m.fv
  ·rcases t b o u q with⟨rfl,f⟩|f;·rw[cell_of_heap (oN w _)];exact f
   ·exact vA m (gY w _) b o u f
  ·rcases t b o u q with⟨rfl,f⟩|f;·exact F u (by
    obtain⟨J,z⟩:=lL.1 f;rw[<-z];simp)
   ·exact m.one b o u f
 ·have get:∀(i:Nat)d(j:Nat)c,g[i]?=some d->d[j]?=some c->∃u,a[i*n+j]?=some u/\Rel (Cx.pure C.im) c u:=fun i d j c k p=>by
   obtain⟨u,l,h4⟩:=H.get (KJ g y i j d c k p);exact⟨u,by simpa using l,h4⟩
  refine .tsl g _ _ n (fun i j=>(a[i*n+j]?).getD undef) (fun i d k=>y d (gJ k)) (fun i d j c k p=>?_) (fun i d j c k p=>?_)
  ·obtain⟨u,l,_⟩:=get i d j c k p;show(if w.heap.size=w.heap.size/\0+i*n+j<a.size then a[0+i*n+j]? else _)=_;rw[if_pos ⟨rfl,by have:=(lL.1 l).1;omega⟩,eT,l];rfl
  ·obtain⟨u,l,h4⟩:=get i d j c k p;show Rel _ c ((a[i*n+j]?).getD undef);rw[l];exact h4.mono (mY r.im)
theorem yu0(y:Inv B C h w){t e:TypeId}{n b:Nat}{g3:List AV}{own:Bool}(ht:P.underlying t=some (.slice e))(hn:dU P e=some n)(hz:kC P e=some g3){d:Array (Nat×Operand)}(L:d.toList.map (·.1)=List.range b){g:Operand->Value}{A:List AV}{v:AV}{H:aA}(f3:RelL C A ((d.toList.map (·.2)).map g))(f:bC G h (.bsl own n) A=some (v,H)):∃u D w',(Instr.buildSlice t b (d.map fun(i,x)=>(i,g x))).run P w=.ok u w'/\C.Le D/\Inv B D H w'/\Rel D v u/\Keep B w w':=by
 simp only[bC]at f;cases s:xA h A with
 |none=>simp[s]at f|some uh=>
  obtain⟨a,h1⟩:=uh;simp only[s]at f;split at f
  ·rename_i a1;obtain⟨o,s2,O,Q⟩:=a1;obtain⟨D,E,F,q,d4,d5⟩:=zy2 y s f3;obtain⟨i,zv,J,g1,_⟩:=GN (C:=C) hz;have z:i.size=n:=by simpa[dU,J]using hn
   have m:a.length=d.toList.length:=by have:=q.1;simpa using this
   have l:d.toList.length=b:=by have:=congrArg List.length L;simpa using this
   have I:=WG O a [] 0 (by simp) o;rw[jU,jU,m,<-zR3 L]at I;have a2:RelL (Cx.pure D.im) a (d.toList.map fun g2=>g g2.2):=by rw[List.map_map]at q;exact q
   have c3:(a.map AV.cells).flatten.length=a.length*n:=by rw[lR _ (BF o)];simp
   have a3:∀j:Array Value,j.size=b*i.size->∃c,Instr.fill (vN i.size) j (d.map fun(x:Nat×Operand)=>(x.1,g x.2)).toList=some c/\RelL (Cx.pure D.im) (a.map AV.cells).flatten c.toList:=by
    intro j Z;obtain⟨c,U,V⟩:=OT (vN i.size) d.toList g _ (List.replicate (d.toList.length*n) .junk) j a _ (by rw[z];exact zb5 _) (zJ2 (by simp;rw[Z,z,<-l];simp)) a2 I;refine⟨c,?_,V⟩;rw[<-U];simp
   obtain⟨c,k,M⟩:=run_buildSlice ht J g1 (by rw[z,<-l,<-m];exact Q) a3 w;have f1:b=(a.map AV.cells).length:=by simp;omega
   have K:=EZ k (ZZ s2);split at f
   ·cases f;have r:c.toList.length=a.length*n:=by rw[<-k.1,c3]
    have N:c.toList.take ((a.map AV.cells).length*n)=c.toList:=lN (by simp at r⊢;omega);obtain⟨S,p,T⟩:=OJ F (rows:=a.map AV.cells) (cap:=b) (size:=n) (e:=e) (cur:=c) (gY w _) (oN w _) (by omega) (by
     have:b*1<=b*n:=Nat.mul_le_mul_left _ O;have h4:b*n<=16777216:=by rw[<-l,<-m];exact Q
     unfold maxLen;omega) (BF o) (by simp at r;rw[r,m,l]) (by rw[N];exact k) (by rw[N];exact K);refine⟨_,_,_,M,E.trans T,S,?_,jK y (gY w _)⟩;rw[kG]at p;rw[show b=a.length by omega]at p⊢;exact p
   ·cases f;obtain⟨h2,W,X,Y⟩:=zm8 (e:=e) F (BF o) k K;refine⟨_,_,_,M,E.trans W,X,?_,jK y (gY w _)⟩;rw[f1];exact Y
  ·cases f
theorem yt9(y:Inv B C h w){t e:TypeId}{n b:Nat}{g3:List AV}{own:Bool}(ht:P.underlying t=some (.slice e))(hn:dU P e=some n)(hz:kC P e=some g3){d:Array (Nat×Operand)}(L:d.toList.map (·.1)=List.range b){g:Operand->Value}{A:List AV}{v:AV}{H:aA}(f3:RelL C A ((d.toList.map (·.2)).map g))(f:bC G h (.bslK own n) A=some (v,H)):∃u D w',(Instr.buildSlice t b (d.map fun(i,x)=>(i,g x))).run P w=.ok u w'/\C.Le D/\Inv B D H w'/\Rel D v u/\Keep B w w':=by
 simp only[bC]at f;cases s:QN h A with
 |none=>simp[s]at f|some uh=>
  obtain⟨a,h1⟩:=uh;simp only[s]at f;split at f
  ·rename_i a1;obtain⟨o,s2,O,Q⟩:=a1;obtain⟨D,E,F,q,d4,d5⟩:=yK8 y s f3;obtain⟨i,zv,J,g1,_⟩:=GN (C:=C) hz;have z:i.size=n:=by simpa[dU,J]using hn
   have m:a.length=d.toList.length:=by have:=q.1;simpa using this
   have l:d.toList.length=b:=by have:=congrArg List.length L;simpa using this
   have I:=WG O a [] 0 (by simp) o;rw[jU,jU,m,<-zR3 L]at I;have a2:RelL (Cx.pure D.im) a (d.toList.map fun g2=>g g2.2):=by rw[List.map_map]at q;exact q
   have c3:(a.map AV.cells).flatten.length=a.length*n:=by rw[lR _ (BF o)];simp
   have a3:∀j:Array Value,j.size=b*i.size->∃c,Instr.fill (vN i.size) j (d.map fun(x:Nat×Operand)=>(x.1,g x.2)).toList=some c/\RelL (Cx.pure D.im) (a.map AV.cells).flatten c.toList:=by
    intro j Z;obtain⟨c,U,V⟩:=OT (vN i.size) d.toList g _ (List.replicate (d.toList.length*n) .junk) j a _ (by rw[z];exact zb5 _) (zJ2 (by simp;rw[Z,z,<-l];simp)) a2 I;refine⟨c,?_,V⟩;rw[<-U];simp
   obtain⟨c,k,M⟩:=run_buildSlice ht J g1 (by rw[z,<-l,<-m];exact Q) a3 w;have f1:b=(a.map AV.cells).length:=by simp;omega
   have K:=EZ k (ZZ s2);split at f
   ·cases f;have r:c.toList.length=a.length*n:=by rw[<-k.1,c3]
    have N:c.toList.take ((a.map AV.cells).length*n)=c.toList:=lN (by simp at r⊢;omega);obtain⟨S,p,T⟩:=OJ F (rows:=a.map AV.cells) (cap:=b) (size:=n) (e:=e) (cur:=c) (gY w _) (oN w _) (by omega) (by
     have:b*1<=b*n:=Nat.mul_le_mul_left _ O;have h4:b*n<=16777216:=by rw[<-l,<-m];exact Q
     unfold maxLen;omega) (BF o) (by simp at r;rw[r,m,l]) (by rw[N];exact k) (by rw[N];exact K);refine⟨_,_,_,M,E.trans T,S,?_,jK y (gY w _)⟩;rw[kG]at p;rw[show b=a.length by omega]at p⊢;exact p
   ·cases f;obtain⟨h2,W,X,Y⟩:=zm8 (e:=e) F (BF o) k K;refine⟨_,_,_,M,E.trans W,X,?_,jK y (gY w _)⟩;rw[f1];exact Y
  ·cases f
end
end Go.Proofs.YtpefhfiehfkocaaGreatDoor
