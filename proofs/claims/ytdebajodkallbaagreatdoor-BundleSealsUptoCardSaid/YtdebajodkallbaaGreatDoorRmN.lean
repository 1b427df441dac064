/- slices -/
import Derived.Test.YtdebajodkallbaaGreatDoorShelf
import Derived.Test.YtdebajodkallbaaGreatDoorRmM
import Derived.Shelf.SlSortCmp.NoneTotal
namespace Go.Proofs.YtdebajodkallbaaGreatDoor
open Go.RowKit
theorem yT6:∃(a:TypeInfo)(z:Value),Tryz.prog.info? 9=some a/\a.zero=some z/\a.size=1/\a.bytes=16/\z.cells.size=1:=⟨(Tryz.prog.info? 9).getD default,(((Tryz.prog.info? 9).getD default).zero).getD (.bool false),by kernel_rfl,by kernel_rfl,by kernel_rfl,by kernel_rfl,by kernel_rfl⟩
theorem yB0(d:Gv):fA Tryz.prog d 236 (MP 1):=by
 obtain⟨l,z,h,j,r,f,k⟩:=yT6;refine yB1 (e:=9) (fun n w p q=>?_) fun w=>?_
 ·refine(Any8.slices_Grow_grow Tryz.grow236 l z h j (by omega) none 0 0 n [] w (dA _) (by omega) (by rw[f];omega) (by omega) (by simp) (fun _=>rfl) (fun a e=>by cases e)).mono fun o m b=>?_;obtain⟨rfl,rfl⟩:=b;have g:=grownCap_ge w (0+n) 0 9;have i:=grownCap_le_maxLen w (0+n) 0 9 (by unfold maxLen;omega);refine⟨_,_,rfl,qU _ _,?_,i,vJ w _⟩;have c:Tryz.grow236_ren.t 25=9:=rfl;simp only[Array.size_append,size_zeroCells,k,c,eR]at g⊢;simp;omega
 ·refine(Any8.slices_Grow_room Tryz.grow236 none 0 0 0 w (dA _) (by omega) (by omega) (by omega)).mono fun o m b=>?_;obtain⟨rfl,rfl⟩:=b;exact⟨rfl,rfl⟩
theorem zm2:∀a b:Bs,decide (Lib.compareBytes a b<0)=decide (a<b)
  |[],[]=>by simp[Lib.compareBytes]|[],_::_=>by simp[Lib.compareBytes]|_::_,[]=>by simp[Lib.compareBytes]|a::x,b::y=>by
    have g:=zm2 x y;simp only[Lib.compareBytes,List.cons_lt_cons_iff];by_cases c:a<b;·simp[c]
    · by_cases d:b<a
      · have f:¬a=b:=fun e=>by subst e;exact c d
        simp[c,d,f]
      ·have f:a=b:=UInt8.le_antisymm (UInt8.not_lt.1 d) (UInt8.not_lt.1 c);subst f;simpa[c]using g
def cfP(x y:PD):Int:=Lib.compareBytes x.1 y.1
theorem ltP(x y:PD):Go.Proofs.ltOf cfP x y=Go.Sort.ltStr x.1 y.1:=zm2 x.1 y.1
theorem zQ2:Go.Sort.SWO (Go.Proofs.ltOf cfP)where
 irrefl x:=by rw[ltP];exact Go.Sort.swo_ltStr.irrefl x.1
 trans x y z a b:=by rw[ltP]at a b⊢;exact Go.Sort.swo_ltStr.trans _ _ _ a b
 ntrans x y z a b:=by rw[ltP]at a b⊢;exact Go.Sort.swo_ltStr.ntrans _ _ _ a b
theorem yQ8(w:World)(b:Nat)(d:Array Value)(k:Nat):(Go.Sort.putRow id w b 0 d).heap[k]?=if b=k then(w.heap[k]?).map (Go.Sort.onCells (Go.Sort.putCells id 0 d))else w.heap[k]?:=by
 simp only[Go.Sort.putRow,Go.Sort.mapBlock];rw[zY]
theorem xu3{B:Base}{C:Cx}{h:aA}{w w':World}(d:Inv B C h w){l y f:Nat}{v rows':List (List AV)}{F:Array Value}{r:RowAt}(p:h[l]?=some (.arr f y v true))(j:C.ar l y=some (some r))(q:rows'.length=v.length)(J:∀x∈rows',x.length=f)(I:RelL (Cx.pure C.im) rows'.flatten F.toList)(U:∀u∈F.toList,u.oneCell'=true)(V:w'.os=w.os)(W:w'.tape=w.tape)(T:w'.output=w.output){os:Array Obj}(E:w'.heap=(Go.Sort.putRow id w r.block 0 F).heap++os):Inv B C (h.set l (.arr f y rows' true)) w'/\Keep B w w':=by
  have K:(Go.Sort.putRow id w r.block 0 F).heap.size=w.heap.size:=by simp
  have D:∀k,k<w.heap.size->w'.heap[k]?=if r.block=k then(w.heap[k]?).map (Go.Sort.onCells (Go.Sort.putCells id 0 F))else w.heap[k]?:=fun k a=>by rw[E,Array.getElem?_append_left (by rw[K];exact a),yQ8]
  have H:w.heap.size<=w'.heap.size:=by rw[E,Array.size_append,K];omega
  rcases d.ok l _ p with⟨k1,_⟩|⟨r',g,k1,k2,k3,k4,k5,k6,k7,k8,Z,k9,k10,k11,k12⟩;·rw[j]at k1;cases k1
  rw[j]at k1;injection k1 with k1;injection k1 with k1;subst k1;have n:r.block<w.heap.size:=gY k6;have S:w'.heap[r.block]?=some (.cells (Go.Sort.putCells id 0 F g) r.elem r.fz):=by rw[D _ n,if_pos rfl,k6];rfl
  have m:∀k,k<w.heap.size->k≠r.block->w'.heap[k]?=w.heap[k]?:=fun k a s=>by rw[D k a,if_neg (fun e=>s e.symm)]
  refine⟨d.turn p (.refl C) H (fun b M N=>⟨m b N (fun e=>M (by simp[bJ,j,e])),fun _=>rfl⟩) (fun b o u t=>?_) d.one ?_ (fun b n=>.inl n) d.fr (TH d p),⟨⟨V,W,T,H,fun k a=>m k (by have:=d.hB;omega) (by omega)⟩,fun k c a=>(m k (gY a) (fun e=>by subst e;rw[k6]at a;cases a)).trans a⟩⟩
  · have s:b≠r.block:=fun e=>by subst e;rw[k9 rfl o]at t;cases t
    have A:=d.im b o u t;rw[World.cell?_of_block (w:=w) (m b (rR A) s)];exact A
  · have O:rows'.flatten.length=rows'.length*f:=mH (n:=f) rows' J;have z:F.size=rows'.length*f:=by have:=I.1;rw[O]at this;simpa using this.symm
    have Q:v.length*r.size<=r.cap*r.size:=kQ _ k3;have Y:F.size<=g.size:=by rw[k7,z,q,<-k11];exact Q
    have L:(Go.Sort.putCells id 0 F g).toList.take (rows'.length*r.size)=F.toList:=by
      rw[k11,<-z];apply rK;intro i;rw[fZ];split
      · rename_i G;simp only[Go.Sort.putCells];have P:i<g.size:=by omega
        simp[P,G]
      ·rename_i G;symm;rw[NX];simp;omega
    refine .inr ⟨r,_,j,k2,by rw[q];exact k3,k4,fun x X=>by rw[k11];exact J x X,S,?_,?_,?_,k9,(fun e=>by cases e),k11,k12.len (by rw[q];exact dA _)⟩;·simp[Go.Sort.putCells,k7]
    ·rw[L];exact I
    ·rw[L];exact U
theorem zs0{d e:Type}{n:Nat}(f:d->List e)(c:∀x,(f x).length=n):∀(l:List d)(i j:Nat)(x:d)(b:e),l[i]?=some x->(f x)[j]?=some b->(l.map f).flatten[i*n+j]?=some b
 |[],i,j,x,b,h,_=>by simp at h|y::r,0,j,x,b,h,a=>by
  simp at h;subst h;rw[iO,oY,gC (by simpa using(aV.1 a).1)];simpa using a|y::r,i+1,j,x,b,h,a=>by
  have g:=zs0 f c r i j x b (by simpa using h) a;rw[iO,oY,fT (by rw[c,gR];omega),c,show(i+1)*n+j-n=i*n+j by rw[gR];omega];exact g
theorem zs1{b c:Type}{n:Nat}(f:b->List c)(a:∀x,(f x).length=n):∀l:List b,(l.map f).flatten.length=l.length*n
 |[]=>by simp|x::r=>by rw[iO,oY,bX,a,zs1 f a r,hJ,gR];omega
theorem JE(x:PD):(gL x).length=2:=rfl
theorem UU(a:List PD):(Go.Sort.flatK gL 2 a.toArray).toList=(a.map gL).flatten:=by
  apply rK;intro i;by_cases c:i<a.length*2
  · have d:i/2<a.length:=by omega
    have b:i%2<2:=by omega
    have f:(Go.Sort.flatK gL 2 a.toArray).toList[i]?=some ((gL a[i/2])[i%2]'(by rw[JE];exact b)):=by
      rw[jT (by simp;exact c)];have:=Go.Sort.get_flatK gL 2 a.toArray i (by simpa using c);rw[AJ _ i (by simpa using c)]at this;rw[Array.getElem_toList,this];rw[AJ a.toArray (i/2) (by simpa using d),List.getElem_toArray,AJ _ (i%2) (by rw[JE];exact b)]
    have e:=zs0 gL JE a (i/2) (i%2) a[i/2] _ (by simp[d]) (jT (by rw[JE];exact b));rw[show i/2*2+i%2=i by omega]at e;rw[f,e]
  ·rw[NX.2 (by simp;omega),NX.2 (by rw[zs1 gL JE];omega)]
theorem zI8{C:Cx}:∀a:List PD,RelL C (a.map jZ).flatten (a.map gL).flatten
 |[]=>.nil|(p,d)::r=>.cons (.str p) (.cons (.str d) (zI8 r))
theorem zI9{C:Cx}:∀(b:List PD){a:List Value},RelL C (b.map jZ).flatten a->a=(b.map gL).flatten
 |[],a,h=>h.inv_nil|(p,d)::r,a,h=>by
  obtain⟨i,f,rfl,c,h⟩:=RelL.inv_cons (a:=.str p) h;obtain⟨j,g,rfl,e,h⟩:=RelL.inv_cons (a:=.str d) h;rw[fM c,fM e,zI9 r h];rfl
theorem xb5(c:List PD):∀u∈(c.map gL).flatten,u.oneCell'=true:=fun u a=>by
 obtain⟨l,b,a⟩:=List.mem_flatten.1 a;obtain⟨x,_,rfl⟩:=nY.1 b;simp[gL]at a;rcases a with rfl|rfl<;>rfl
theorem yR2{B:Base}{C:Cx}{h:aA}{w:World}(m:Inv B C h w){l g:Nat}{a:List PD}{r:RowAt}{wr:Bool}(n:h[l]?=some (.arr 2 g (a.map jZ) wr))(d:C.ar l g=some (some r)):Go.Sort.HoldsK gL 2 w r.block 0 a.toArray/\r.block<w.heap.size:=by
 rcases m.ok l _ n with⟨k1,_⟩|⟨p,i,k1,k2,k3,k4,k5,k6,k7,k8,o,k9,k10,k11,k12⟩;·rw[d]at k1;cases k1
 rw[d]at k1;injection k1 with k1;injection k1 with k1;subst k1;refine⟨fun j c=>?_,gY k6⟩;have e:=zI9 a k8;rw[<-UU]at e;have f:j<(Go.Sort.flatK gL 2 a.toArray).toList.length:=by simpa using c
 have k:j<r.cap*r.size:=by rw[k11];simp at c k3;omega
 refine⟨?_,by rw[eR];exact RowAt.thaw k6 k⟩;rw[eR,cell_of_heap k6,<-zZ];have b:(i.toList.take ((a.map jZ).length*r.size))[j]?=some ((Go.Sort.flatK gL 2 a.toArray).toList[j]'f):=by rw[e];exact jT f
 rw[fZ]at b;split at b;·rw[b,AJ _ j c];simp
 ·cases b
theorem xp7 {P : Program} {gv : Gv} {f : FuncId} {gs : List FuncId}
    (h00 : ∀ g ∈ gs,∀ (p : Option Addr) (cap : Nat) (w : World),Calls P f #[.slice p 0 cap,.func (.func g) #[] #[]] w fun e w' => e = .returned (.tuple #[]) ∧ w' = w)
    (h1 : ∀ g ∈ gs,∀ (blk off cap : Nat) (d : Array PD) (w : World),Go.Sort.HoldsK gL 2 w blk off d → blk < w.heap.size → d.size < 4611686018427387904 →
      Calls P f #[.slice (some ⟨blk,off,none⟩) d.size cap,.func (.func g) #[] #[]] w fun e w' => e = .returned (.tuple #[]) ∧ ∃ d' n os,Go.Sort.PermIn 0 d.size d d' ∧ Go.Sort.SortedIn (Go.Proofs.ltOf cfP) 0 d.size d' ∧ w' = Go.Proofs.sortWorldK gL 2 w blk off n d' os) : fA P gv f (sY gs) := by
  intro B C h w args r h' vals hgv hi hr hF
  unfold sY at hF
  split at hF
  · rename_i l ver n g
    split at hF
    · rename_i ver' rows hl
      split at hF
      · rename_i ps hd
        have := zo1 hd; subst this
        split at hF
        · rename_i hc
          obtain ⟨hg,rfl,rfl,hbig,hdist⟩ := hc
          simp only [aT,dF] at hF; obtain ⟨rfl,rfl⟩ := hF
          obtain ⟨v,us,e1,hv,hr⟩ := hr.inv_cons
          obtain ⟨v2,us,rfl,hv2,hr⟩ := hr.inv_cons
          have := hr.inv_nil; subst this
          have hvals : vals = #[v,v2] := by apply kP; simpa using e1
          subst hvals
          have hf2 : v2 = .func (.func g) #[] #[] := by
            cases hv2 with
            | fn _ _ vs hs _ => have : vs = #[] := by apply NU; simpa using hs.symm
                                subst this; rfl
          subst hf2
          by_cases hps : ps = []
          · subst hps
            have hh : h.set l (.arr 2 ver ((lI []).map jZ) true) = h := by
              obtain ⟨hlt,e⟩ := aV.1 hl
              refine rK fun i => ?_
              rw [iY]
              split
              · rename_i e2; subst e2; rw [hl]; simp [lI]
              · rfl
            have hv0 : ∃ p cap,v = .slice p 0 cap := by
              cases hv with
              | ownnil _ _ har => exact ⟨_,_,rfl⟩
              | own _ _ _ r har hcap => exact ⟨_,_,rfl⟩
            obtain ⟨p,cap,rfl⟩ := hv0
            rw [hh]
            refine (h00 g (by simpa using hg) p cap w).mono fun e w' hk => ?_
            obtain ⟨rfl,rfl⟩ := hk
            exact ⟨_,C,rfl,.refl C,hi,.tup [] #[] rfl (fun i c v h => by simp at h),.refl _ _⟩
          have h0 : 0 < ps.length := vD.2 hps
          generalize hn : ps.length = n at hv
          cases hv with
          | ownnil _ _ har => omega
          | own _ _ _ r har hcap =>
            obtain ⟨q1,q2⟩ := yR2 hi hl har
            have hc := h1 g (by simpa using hg) r.block 0 r.cap ps.toArray w q1 q2 (by unfold big at hbig; simp; omega)
            rw [List.size_toArray,hn] at hc
            refine hc.mono fun e w' hk => ?_
            obtain ⟨rfl,d',q,os,hp,hs,rfl⟩ := hk
            have hsz : d'.size = ps.length := by rw [hp.1]; simp
            have hd' : d'.toList = lI ps := by
              refine zO5 hdist ?_ ?_
              · have := hp.2.2
                rw [← hn] at this
                rw [show d'.extract 0 ps.length = d' by rw [← hsz]; exact Array.extract_size] at this
                have e2 : ps.toArray.extract 0 ps.length = ps.toArray := by simp
                rw [e2] at this
                simpa using this
              · rw [List.pairwise_iff_getElem]
                intro i j hi' hj' hij
                have hi2 : i < d'.size := by simpa using hi'
                have hj2 : j < d'.size := by simpa using hj'
                have := hs i j (nZ _) hij (by omega)
                rw [AJ d' j hj2,AJ d' i hi2,ltP] at this
                rw [QI,Array.getElem_toList,Array.getElem_toList]
                simp only [Go.Sort.ltStr,AI] at this
                exact List.not_lt.1 this
            have hd2 : d' = (lI ps).toArray := by apply kP; simpa using hd'
            subst hd2
            obtain ⟨t1,t2⟩ := xu3 hi (rows' := (lI ps).map jZ) (F := Go.Sort.flatK gL 2 (lI ps).toArray) hl har (by simpa using hsz) (fun x hx => by obtain ⟨y,_,rfl⟩ := nY.1 hx; rfl)
              (by rw [UU]; exact zI8 _) (by rw [UU]; exact xb5 _) (w' := Go.Proofs.sortWorldK gL 2 w r.block 0 q (lI ps).toArray os) rfl rfl rfl (os := os) rfl
            exact ⟨_,C,rfl,.refl C,t1,.tup [] #[] rfl (fun i c v h => by simp at h),t2⟩
        · cases hF
      · cases hF
    · cases hF
  · cases hF
section
open Go.Lib Go.Sort Go.Shelf
theorem zP3(a b:Bs)(w:World):Calls Tryz.prog 101 #[.string ⟨a.toArray⟩,.string ⟨b.toArray⟩] w fun e c=>e=.returned (.int .i64 (Lib.compareBytes a b))/\c=w:=by
 have h:Calls Tryz.prog 101 #[.string ⟨a.toArray⟩,.string ⟨b.toArray⟩] w fun e c=>e=.returned (.int .i64 (Lib.compareBytes (ByteArray.mk a.toArray).data.toList (ByteArray.mk b.toArray).data.toList))/\c=w:=Tryz.strings_Compare ⟨a.toArray⟩ ⟨b.toArray⟩ w;simpa using h
set_option maxHeartbeats 1000000 in set_option maxRecDepth 100000 in theorem yr2(x y:PD)(W:World):Calls Tryz.prog 237 #[.agg (gL x).toArray,.agg (gL y).toArray] W fun e w'=>e=.returned (.int .i64 (cfP x y))/\∃q os',w'=Go.Sort.grow (W.drewN q) os':=by
 obtain⟨p,d⟩:=x;obtain⟨p',d'⟩:=y;have hcon:∀W',Calls Tryz.prog 101 #[.string ⟨p.toArray⟩,.string ⟨p'.toArray⟩] W' fun e w'=>e=.returned (.int .i64 (cfP (p,d) (p',d')))/\w'=W':=fun W'=>zP3 p p' W';generalize cfP (p,d) (p',d')=r at hcon⊢;show Calls Tryz.prog 237 #[.agg #[.string ⟨p.toArray⟩,.string ⟨d.toArray⟩],.agg #[.string ⟨p'.toArray⟩,.string ⟨d'.toArray⟩]] W _;go_enter Tryz.func237,Tryz.ntmps237;go_wp2_with(go_at_call 101;refine(hcon _).mono ?_;rintro e w'⟨rfl,rfl⟩);go_ret;exact⟨rfl,0,_,by rw[alloc_eq_grow,alloc_eq_grow,grow_grow];rfl⟩
set_option maxHeartbeats 1000000 in set_option maxRecDepth 100000 in theorem yr3(x y:PD)(W:World):Calls Tryz.prog 54 #[.agg (gL x).toArray,.agg (gL y).toArray] W fun e w'=>e=.returned (.int .i64 (cfP x y))/\∃q os',w'=Go.Sort.grow (W.drewN q) os':=by
 obtain⟨p,d⟩:=x;obtain⟨p',d'⟩:=y;have hcon:∀W',Calls Tryz.prog 101 #[.string ⟨p.toArray⟩,.string ⟨p'.toArray⟩] W' fun e w'=>e=.returned (.int .i64 (cfP (p,d) (p',d')))/\w'=W':=fun W'=>zP3 p p' W';generalize cfP (p,d) (p',d')=r at hcon⊢;show Calls Tryz.prog 54 #[.agg #[.string ⟨p.toArray⟩,.string ⟨d.toArray⟩],.agg #[.string ⟨p'.toArray⟩,.string ⟨d'.toArray⟩]] W _;go_enter Tryz.func54,Tryz.ntmps54;go_wp2_with(go_at_call 101;refine(hcon _).mono ?_;rintro e w'⟨rfl,rfl⟩);go_ret;exact⟨rfl,0,_,by rw[alloc_eq_grow,alloc_eq_grow,grow_grow];rfl⟩
theorem ye1:∀w,(isAgg 57).run Tryz.prog w=.ok true w:=uG (by kernel_rfl)
theorem xo7:∀w,(Go.sizeOf 57).run Tryz.prog w=.ok 2 w:=jR (by kernel_rfl)
set_option maxHeartbeats 2000000 in set_option maxRecDepth 100000 in theorem zO4(g:Nat)(hg:∀args w,(callFunc g args).run Tryz.prog w=.ok (.enter g args) w)(hc:∀x y W,Calls Tryz.prog g #[.agg (gL x).toArray,.agg (gL y).toArray] W fun e w'=>e=.returned (.int .i64 (cfP x y))/\∃q os',w'=Go.Sort.grow (W.drewN q) os')(blk off cap:Nat)(d:Array PD)(w:World)(hH:HoldsK gL 2 w blk off d)(hblk:blk<w.heap.size)(hsz:d.size<4611686018427387904):Calls Tryz.prog 53 #[.slice (some ⟨blk,off,none⟩) d.size cap,.func (.func g) #[] #[]] w fun e w'=>e=.returned (.tuple #[])/\∃d' n os,PermIn 0 d.size d d'/\SortedIn (ltOf cfP) 0 d.size d'/\w'=sortWorldK gL 2 w blk off n d' os:=by
 have mixed:=jP;have hlim:Lib.bitLen d.size<4611686018427387904:=Nat.lt_of_le_of_lt (Lib.bitLen_le d.size 62 (by omega) (by omega)) (by omega);have h1:∀x,∀v∈gL x,v.oneCell'=true:=fun x v hv=>by simp[gL]at hv;rcases hv with rfl|rfl<;>rfl
 have hs:=pdq_sorts (ltOf cfP) zQ2 d 0 d.size (Lib.bitLen d.size) true true (nZ _) (dA _) (Or.inl rfl);have hp:Calls Tryz.prog 99 #[.slice (some ⟨blk,off,none⟩) d.size cap,.int .i64 0,.int .i64 (d.size:Int),.int .i64 (Lib.bitLen d.size:Nat),.func (.func g) #[] #[]] w fun e w'=>e=.returned (.tuple #[])/\SWK gL 2 w blk off (pdq (ltOf cfP) d 0 d.size (Lib.bitLen d.size) true true) w':=AnyQ.pdqsortCmpFunc_all Tryz.pdqFile 2 ye1 xo7 gL cfP g #[] zQ2 blk off cap d w hg (fun _ _ _ _ x y=>hc x y _) ⟨fun _=>rfl,h1,hH,hblk⟩ (d.size+1) 0 d.size (Lib.bitLen d.size) d w (by omega) rfl (SWK.start hH) (nZ _) (dA _) hsz hlim (Or.inl rfl);have hl:Calls Tryz.prog 100 #[.int .u64 (d.size:Int)] w fun e w'=>e=.returned (.int .i64 (Lib.bitLen d.size:Nat))/\w'=w:=by
  have h:=Tryz.bits_Len (d.size:Int) w (by omega) (by omega);rwa[iG]at h
 have wr:IntKind.u64.wrap (d.size:Int)=d.size:=by simp[IntKind.wrap,IntKind.bits,IntKind.signed];omega
 generalize pdq (ltOf cfP) d 0 d.size (Lib.bitLen d.size) true true=d' at hp hs;generalize Lib.bitLen d.size=bl at hp hl;generalize d.size=n at hp hl wr hs⊢;clear hH hc h1 hlim hsz;go_enter Tryz.func53,Tryz.ntmps53;go_wp2_with(first|(go_at_call 100;refine hl.mono ?_;rintro e w'⟨rfl,rfl⟩)|(go_at_call 99;refine hp.mono ?_;rintro e w'⟨rfl,n,os,rfl⟩));go_end0;exact⟨rfl,d',n,os,hs.1,hs.2,rfl⟩
set_option maxHeartbeats 1000000 in set_option maxRecDepth 100000 in theorem xp5(fv:Value)(p:Option Addr)(cap:Nat)(w:World):Calls Tryz.prog 53 #[.slice p 0 cap,fv] w fun e w'=>e=.returned (.tuple #[])/\w'=w:=by
 have mixed:=jP;have hp:∀lim,Calls Tryz.prog 99 #[.slice p 0 cap,.int .i64 0,.int .i64 0,.int .i64 lim,fv] w fun e w'=>e=.returned (.tuple #[])/\w'=w:=fun lim=>AnyF.pdqsortCmpFunc_none Tryz.pdqFile p cap lim fv w;have hl:Calls Tryz.prog 100 #[.int .u64 0] w fun e w'=>e=.returned (.int .i64 (Lib.bitLen 0:Nat))/\w'=w:=Tryz.bits_Len 0 w (by omega) (by omega);go_enter Tryz.func53,Tryz.ntmps53;go_wp2_with(first|(go_at_call 100;refine hl.mono ?_;rintro e w'⟨rfl,rfl⟩)|(go_at_call 99;refine(hp _).mono ?_;rintro e w'⟨rfl,rfl⟩));go_end0;exact⟨rfl,rfl⟩
theorem xp6(j:Gv):fA Tryz.prog j 53 (sY [237,54]):=xp7 (fun _ _ p a w=>xp5 _ p a w) fun g b c i a d w e f h=>by
 rcases fE.1 b with rfl|b;·exact zO4 237 (Go.Proofs.enters_of Tryz.func237 (by kernel_rfl) rfl) yr2 c i a d w e f h
 ·obtain rfl:=mN.1 b;exact zO4 54 (Go.Proofs.enters_of Tryz.func54 (by kernel_rfl) rfl) yr3 c i a d w e f h
end
end Go.Proofs.YtdebajodkallbaaGreatDoor
