/- append,make,slice literals; then all operations that make or turn something. All operations that make or turn something. The operations that make or turn something,all of them. -/
import Derived.Test.YtpefhfiehfkocaaGreatDoorAm3
namespace Go.Proofs.YtpefhfiehfkocaaGreatDoor
open Go.RowKit
section
variable {P:Program} {B:Base} {C D:Cx} {h:Heap} {w w':World} {G:Gam}
theorem flat_cells{b size:Nat}:∀ (rows:List (List AV)) (o:Nat) (us:Nat→Nat→Value),(∀ row∈rows,row.length=size)→
  (∀ (i:Nat) row (j:Nat) c,rows[i]?=some row→row[j]?=some c→C.im b (o+i*size+j)=some (us i j))→(∀ (i:Nat) row (j:Nat) c,rows[i]?=some row→row[j]?=some c→Rel (Cx.pure C.im) c (us i j))→
  ∃ l,RelL (Cx.pure C.im) rows.flatten l∧∀ (j:Nat) u,l[j]?=some u→C.im b (o+j)=some u
 | [],o,us,_,_,_=>⟨[],.nil,fun j u hj=>by simp at hj⟩
 | r::rs,o,us,hs,hc,hr=>by
  obtain ⟨l,h1,h2⟩:=flat_cells rs (o+size) (fun i j=>us (i+1) j) (fun x hx=>hs x (by simp [hx]))
   (fun i row j c x y=>by
    have:=hc (i+1) row j c (by simpa using x) y;rwa [show o+(i+1)*size+j=o+size+i*size+j by rw [Nat.add_mul]; omega]at this)
   (fun i row j c x y=>hr (i+1) row j c (by simpa using x) y)
  have hrl:r.length=size:=hs r (by simp);refine ⟨(List.range r.length).map (us 0)++l,?_,fun j u hj=>?_⟩
  ·rw [List.flatten_cons]
   exact (row_rel (fun j c hj=>hr 0 r j c rfl hj)).append h1
  ·by_cases hlt:j<r.length
   ·rw [List.getElem?_append_left (by simpa using hlt),List.getElem?_map,List.getElem?_range hlt]at hj
    simp at hj; subst hj;have:=hc 0 r j r[j] rfl (by simp [hlt]);simpa using this
   ·rw [List.getElem?_append_right (by simpa using Nat.le_of_not_lt hlt)]at hj
    have:=h2 _ u hj;simp at this;rwa [show o+size+(j-r.length)=o+j by omega]at this
theorem src_of(hi:Inv B C h w){tx:TypeId}{size:Nat}{str:Bool}{a:AV}{x:Value}{new:List (List AV)}(hx:Rel C a x)(ha:appRows h str a=some new)(hs:sizesOk size new=true)
  (hk:str=true→P.underlying tx=some .string∧size=1) (hk':str=false→∃ e,P.underlying tx=some (.slice e)) :
  ∃ news,Src P size tx x new.length news w∧RelL (Cx.pure C.im) new.flatten news:=by
 have hall:=sizesOk_all hs
 have hfl:=flatten_len new hall
 have slice:∀ (rows:List (List AV)),rows=new→Rel C (.sl rows) x→str=false→∃ news,Src P size tx x new.length news w∧RelL (Cx.pure C.im) new.flatten news:=by
  rintro rows rfl hr hns
  obtain ⟨e,hu⟩:=hk' hns;cases hr with
  | slnil=>exact ⟨[],Src.ofNil w hu 0,.nil⟩
  | slz a cap=>exact ⟨[],Src.ofSlice w hu a 0 cap [] (by simp) (fun j u hj=>by simp at hj) (fun u hu=>by simp at hu),.nil⟩
  | sl _ b o cap size' us hcap h1 h2 h3=>
   obtain ⟨l,k1,k2⟩:=flat_cells (size:=size) rows o us hall (fun i row j c x y=>by
    have:=h2 i row j c x y;rwa [← h1 i row x,hall row (List.mem_of_getElem? x)]at this) h3
   have hl:=k1.1;refine ⟨l,Src.ofSlice w hu ⟨b,o,none⟩ rows.length cap l (by rw [← hl,hfl]) (fun j u hj=>by rw [Addr.add_lit]; exact hi.im _ _ _ (k2 j u hj)) (fun u hu=>?_),k1⟩
   obtain ⟨j,hj⟩:=List.mem_iff_getElem?.1 hu;exact hi.one _ _ _ (k2 j u hj)
 cases str with
 | true=>
  simp only [appRows,if_true]at ha;split at ha
  ·rename_i s
   injection ha with ha; subst ha
   obtain ⟨hu,rfl⟩:=hk rfl;have:=str_inv hx; subst this;refine ⟨byteCells ⟨s.toArray⟩,?_,?_,fun i c u hc hu'=>?_⟩
   ·have:=Src.ofString (P:=P) w hu ⟨s.toArray⟩
    rw [size_ba]at this;simpa using this
   ·rw [byteCells_length,size_ba]; simpa using hfl
   ·have hf:(s.map fun b=>([AV.int .u8 b.toNat]:List AV)).flatten=s.map fun b=>AV.int .u8 b.toNat:=by
     clear hx hs hall hfl hc hu' hk hk' slice;induction s with
     | nil=>rfl
     | cons b s ih=>simp [ih]
    rw [hf,List.getElem?_map]at hc;simp only [byteCells,List.getElem?_map]at hu';cases hsi:s[i]? with
    | none=>simp [hsi]at hc
    | some b=>
     simp [hsi]at hc hu';subst hc hu';exact .int _ _
  ·cases ha
 | false=>
 simp only [appRows,Bool.false_eq_true,if_false]at ha
 cases a with
 | sl rows=>simp only [rowsOf,Option.some.injEq]at ha; exact slice rows ha hx rfl
 | tsl rows=>simp only [rowsOf,Option.some.injEq]at ha; exact slice rows ha (rel_tsl_sl hx) rfl
 | nils=>
  simp only [rowsOf,Option.some.injEq]at ha; subst ha;obtain ⟨e,hu⟩:=hk' rfl;cases hx
  exact ⟨[],Src.ofNil w hu 0,.nil⟩
 | own l ver n=>
  simp only [rowsOf]at ha;obtain ⟨e,hu⟩:=hk' rfl;split at ha
  ·rename_i sz ver' rows wr hl
   split at ha
   ·rename_i hc
    obtain ⟨rfl,hn⟩:=hc;injection ha with ha; subst ha
    have hlen:(rows.take n).length=n:=by simp; omega
    cases hx with
    | ownnil _ _ h1=>simp; exact ⟨[],Src.ofNil w hu 0,.nil⟩
    | own _ _ _ r h1 hcap=>
     rcases hi.ok l _ hl with ⟨k1,_⟩ | ⟨r',cur,k1,k2,k3,k4,k5,k6,k7,k8,k8',_⟩
     ·rw [h1]at k1; cases k1
     ·rw [h1]at k1; injection k1 with k1; injection k1 with k1; subst k1
      have hm:n*r.size≤rows.length*r.size:=Nat.mul_le_mul_right _ hn;have hm2:rows.length*r.size≤cur.size:=by rw [k7]; exact Nat.mul_le_mul_right _ k3
      have hfr:(rows.take n).flatten=rows.flatten.take (n*r.size):=by
       have e1:rows.flatten=(rows.take n).flatten++(rows.drop n).flatten:=by rw [← List.flatten_append,List.take_append_drop]
       have e2:(rows.take n).flatten.length=n*r.size:=by rw [flatten_len (n:=r.size) _ (fun x hx=>k5 x (List.mem_of_mem_take hx)),hlen]
       conv=>rhs; rw [e1,List.take_append,List.take_of_length_le (by omega),e2,Nat.sub_self]
       simp
      have hrel:RelL (Cx.pure C.im) (rows.take n).flatten (cur.toList.take (n*r.size)):=by
       rw [hfr];have:=k8.take (n*r.size);rwa [List.take_take,Nat.min_eq_left hm]at this
      have hll:=hrel.1;rw [hlen];refine ⟨_,Src.ofSlice w hu ⟨r.block,0,none⟩ n r.cap (cur.toList.take (n*r.size)) (by rw [← hll,hfl,hlen]) (fun j u hj=>?_) (fun u hu=>k8' u ?_),hrel⟩
      ·rw [Addr.add_lit,cell_of_heap k6,Nat.zero_add]
       rw [List.getElem?_take]at hj;split at hj
       ·simpa using hj
       ·cases hj
      ·obtain ⟨j,hj⟩:=List.mem_iff_getElem?.1 hu
       rw [List.getElem?_take]at hj;split at hj
       ·exact List.mem_of_getElem? (i:=j) (by rw [List.getElem?_take,if_pos (by omega)]; exact hj)
       ·cases hj
   ·cases ha
  ·cases ha
 | _=>simp [rowsOf]at ha
theorem run_append_none{t tx ty e:TypeId}{i:TypeInfo}(ht:P.underlying t=some (.slice e))(hi:P.info? e=some i){base:Option Addr}{sLen sCap:Nat}{x:Value}{news:List Value}(hs:Src P i.size tx x 0 news w)(hle:sLen≤sCap) :
  (Builtin.append_ #[t,tx] ty #[.slice base sLen sCap,x]).run P w=.ok (.slice base sLen sCap) w:=by
 have hn:news=[]:=List.eq_nil_of_length_eq_zero (by rw [hs.newsLen]; simp)
 subst hn
 have hcells:=hs.cells
 rcases hs.kind with ⟨e',hk⟩ | hk <;> cases base <;> simp [Builtin.append_,run_underlying ht,run_underlying hk,sizeOf,typeInfo,hi,hs.len,hle,hcells,storeCells]
theorem setCells_heap{b:Nat}{e:TypeId}{fz:Nat×Nat}(vs:List Value)(o:Nat)(w:World)(cur:Array Value)(hg:w.heap[b]?=some (.cells cur e fz))(hl:o+vs.length≤cur.size) :
  (w.setCells b o vs).heap[b]?=some (.cells (cur.toList.take o++vs++cur.toList.drop (o+vs.length)).toArray e fz):=by
 rw [cells_row vs o cur w hg hl]
 exact setRow_heap w b cur _ e fz hg
theorem setCells_other(b:Nat):∀ (vs:List Value) (o:Nat) (w:World) (k:Nat),k≠b→(w.setCells b o vs).heap[k]?=w.heap[k]?
 | [],_,_,_,_=>rfl
 | v::vs,o,w,k,hk=>by
  simp only [World.setCells];rw [setCells_other b vs (o+1) _ k hk,heap_setCell_other w ⟨b,o,none⟩ k v hk]
theorem setCells_size(b:Nat):∀ (vs:List Value) (o:Nat) (w:World),(w.setCells b o vs).heap.size=w.heap.size
 | [],_,_=>rfl
 | v::vs,o,w=>by simp only [World.setCells]; rw [setCells_size b vs]; simp [World.setCell]
theorem setCells_below{b:Nat}(hb:B≤b):∀ (vs:List Value) (o:Nat) (w:World),Keep B w (w.setCells b o vs)
 | [],_,w=>Keep.refl _ _
 | v::vs,o,w=>by simp only [World.setCells]; exact ((Keep.refl _ _).setCell (p:=⟨b,o,none⟩) hb v).trans (setCells_below hb vs (o+1) _)
theorem grow_run{t tx ty e:TypeId}{i:TypeInfo}{z:Value}(ht:P.underlying t=some (.slice e))(hi:P.info? e=some i)(hz:i.zero=some z)(hzs:z.cells.size=i.size){base:Option Addr}{sLen sCap:Nat}{olds:List Value}
  (hold:(Builtin.firstCells i.size sLen (.slice base sLen sCap)).run P w.drew=.ok olds.toArray w.drew) (holdl:olds.length=sLen*i.size) {x:Value} {n:Nat} {news:List Value} (hs:Src P i.size tx x n news w)
  (hg:sCap<sLen+n) (hb:(sLen+n)*i.bytes≤byteMax) (hm:sLen+n≤byteMax) :
  ∃ (cap:Nat) (cur:Array Value),sLen+n≤cap∧cap≤maxLen∧cur.size=cap*i.size∧cur.toList.take ((sLen+n)*i.size)=olds++news∧
   (Builtin.append_ #[t,tx] ty #[.slice base sLen sCap,x]).run P w=.ok (.slice (some ⟨w.heap.size,0,none⟩) (sLen+n) cap) (w.drew.alloc (.cells cur e)):=by
 have h63:sLen+n≤maxLen:=by unfold byteMax at hm; unfold maxLen; omega
 refine ⟨grownCap w (sLen+n) sCap e,((olds++news).toArray++Builtin.zeroCells z.cells (grownCap w (sLen+n) sCap e-(sLen+n))),grownCap_ge w _ _ _,grownCap_le_maxLen w _ _ _ h63,?_,?_,
  run_append_grow_src w t tx ty e i z ht hi hz base sLen sCap olds hold x n news hs hg (by unfold maxLen at h63; omega) (growslice_fits hg hb)⟩
 ·have hge:=grownCap_ge w (sLen+n) sCap e
  have hnl:=hs.newsLen;rw [Array.size_append,size_zeroCells,hzs];simp only [List.size_toArray,List.length_append,holdl,hnl];rw [← Nat.add_mul,← Nat.add_mul];congr 1; omega
 ·have hnl:=hs.newsLen
  rw [Array.toList_append];simp only;rw [List.take_append,List.take_of_length_le (by rw [List.length_append,holdl,hnl,Nat.add_mul]; exact Nat.le_refl _)];rw [List.length_append,holdl,hnl,← Nat.add_mul,Nat.sub_self]; simp
theorem below_da(w:World)(o:Obj):Below w.heap.size w (w.drew.alloc o):=(below_drew w).alloc (Nat.le_refl _) o
theorem app_sound(hi:Inv B C h w){t tx ty e:TypeId}{n bytes:Nat}{z:List AV}(ht:P.underlying t=some (.slice e))(hn:tsize P e=some n)(hb:tbytes P e=some bytes)(hz:tzero P e=some z)(hzl:z.length=n)
  {s a v:AV} {sv x:Value} {h':Heap} {new:List (List AV)} {str:Bool} (hs:Rel C s sv) (hx:Rel C a x) (ha:appRows h str a=some new) (hsz:sizesOk n new=true)
  (hkk:str=true→P.underlying tx=some .string∧n=1) (hkk':str=false→∃ e,P.underlying tx=some (.slice e))
  {te:Option TypeId} (hte:tagOK te e) (hev:appAV te n bytes h s new=some (v,h')) :
  ∃ u D w',(Builtin.append_ #[t,tx] ty #[sv,x]).run P w=.ok u w'∧C.Le D∧Inv B D h' w'∧Rel D v u∧Keep B w w':=by
 obtain ⟨i,zv,hii,hzz,hzr⟩:=tzero_rel (C:=C) hz
 have hsize:i.size=n:=by simpa [tsize,hii] using hn
 have hbytes:i.bytes=bytes:=by simpa [tbytes,hii] using hb
 have hzs:zv.cells.size=i.size:=by have:=hzr.1; simp at this; omega
 obtain ⟨news,hsrc,hrel⟩:=src_of hi hx ha hsz hkk hkk'
 rw [← hsize]at hsrc
 have hnl:=hsrc.newsLen
 have hall:=sizesOk_all hsz
 have none_case:∀ (hnew:new=[]) (base:Option Addr) (sLen sCap:Nat),sv=.slice base sLen sCap→sLen≤sCap→(Builtin.append_ #[t,tx] ty #[sv,x]).run P w=.ok sv w:=by
  rintro rfl base sLen sCap rfl hle
  exact run_append_none ht hii hsrc hle
 have flatApp:∀ rows:List (List AV),(rows++new).flatten=rows.flatten++new.flatten:=fun rows=>List.flatten_append
 have fresh:∀ (rows:List (List AV)) (base:Option Addr) (sCap:Nat) (olds:List Value),sv=.slice base rows.length sCap→sCap<rows.length+new.length→(∀ row∈rows,row.length=n)→olds.length=rows.length*n→RelL (Cx.pure C.im) rows.flatten olds→(∀ u∈olds,u.oneCell'=true)→
   (Builtin.firstCells n rows.length (.slice base rows.length sCap)).run P w.drew=.ok olds.toArray w.drew→(rows.length+new.length)*bytes≤byteMax→rows.length+new.length≤byteMax→
   ∃ (cap:Nat) (cur:Array Value),rows.length+new.length≤cap∧cap≤maxLen∧cur.size=cap*n∧(∀ row∈rows++new,row.length=n)∧RelL (Cx.pure C.im) (rows++new).flatten (cur.toList.take ((rows++new).length*n))∧(∀ u∈cur.toList.take ((rows++new).length*n),u.oneCell'=true)∧
    (Builtin.append_ #[t,tx] ty #[sv,x]).run P w=.ok (.slice (some ⟨w.heap.size,0,none⟩) (rows.length+new.length) cap) (w.drew.alloc (.cells cur e)):=by
  rintro rows base sCap olds rfl hg hrows hol hor hoo hold hB hM
  obtain ⟨cap,cur,a1,a2,a3,a4,a5⟩:=grow_run (P:=P) (w:=w) (ty:=ty) ht hii hzz hzs (by rw [hsize]; exact hold) (by rw [hsize]; exact hol) hsrc hg (by rw [hbytes]; exact hB) hM;rw [hsize]at a3 a4;refine ⟨cap,cur,a1,a2,a3,fun row hr=>?_,?_,fun u hu=>?_,a5⟩
  ·rcases List.mem_append.1 hr with hr | hr
   ·exact hrows row hr
   ·exact hall row hr
  ·rw [List.length_append,a4,flatApp]; exact hor.append hrel
  ·rw [List.length_append,a4]at hu
   rcases List.mem_append.1 hu with hu | hu
   ·exact hoo u hu
   ·exact hsrc.one u hu
 cases s with
 | nils=>
  cases hs
  simp only [appAV]at hev;split at hev
  ·rename_i hnew
   injection hev with hev; injection hev with e1 e2; subst e1 e2
   exact ⟨_,C,w,none_case hnew none 0 0 rfl (Nat.le_refl _),.refl C,hi,.nils,.refl _ _⟩
  ·rename_i hnew
   split at hev
   ·rename_i hc
    injection hev with hev; injection hev with e1 e2; subst e1 e2
    have hpos:0<new.length:=List.length_pos_iff.2 hnew;obtain ⟨cap,cur,a1,a2,a3,a4,a5,a6,a7⟩:=fresh [] none 0 [] rfl (by simpa using hpos) (by simp) (by simp) .nil (by simp) (by simpa using run_firstCells_none (P:=P) w.drew n 0 0 0) (by simpa using hc.1) (by simpa using hc.2);simp only [List.nil_append,List.length_nil,Nat.zero_add]at a1 a4 a5 a6 a7;obtain ⟨b1,b2,b3⟩:=add_arrT hi (below_da w (.cells cur e)) (by simpa [RowAt.fz] using heap_new w.drew (.cells cur e)) a1 a2 a4 a3 a5 a6 ⟨hte,fun _=>hnew⟩;exact ⟨_,_,_,a7,b3,b1,b2,below_of hi (below_da w _)⟩
   ·cases hev
 | tsl rows=>
  simp only [appAV]at hev;split at hev
  ·rename_i hnew
   injection hev with hev; injection hev with e1 e2; subst e1 e2
   refine ⟨sv,C,w,?_,.refl C,hi,hs,.refl _ _⟩
   cases hs with
   | tslnil=>exact none_case hnew none 0 0 rfl (Nat.le_refl _)
   | tslz a=>exact none_case hnew (some a) 0 0 rfl (Nat.le_refl _)
   | tsl _ b o size us h1 h2 h3=>exact none_case hnew _ _ _ rfl (Nat.le_refl _)
  ·rename_i hnew
   split at hev
   ·rename_i hc
    obtain ⟨c1,c2,c3⟩:=hc;injection hev with hev; injection hev with e1 e2; subst e1 e2
    have hpos:0<new.length:=List.length_pos_iff.2 hnew;have hrows:=sizesOk_all c3;have key:∃ base olds,sv=.slice base rows.length rows.length∧olds.length=rows.length*n∧RelL (Cx.pure C.im) rows.flatten olds∧(∀ u∈olds,u.oneCell'=true)∧(Builtin.firstCells n rows.length (.slice base rows.length rows.length)).run P w.drew=.ok olds.toArray w.drew:=by
     cases hs with
     | tslnil=>exact ⟨none,[],rfl,by simp,.nil,by simp,by simpa using run_firstCells_none (P:=P) w.drew n 0 0 0⟩
     | tslz a=>exact ⟨some a,[],rfl,by simp,.nil,by simp,by simpa using run_firstCells_some (P:=P) w.drew n 0 a 0 0 [] (by simp) (fun j u hj=>by simp at hj)⟩
     | tsl _ b o size us h1 h2 h3=>
      obtain ⟨l,k1,k2⟩:=flat_cells (size:=n) rows o us hrows (fun i row j c x y=>by
       have:=h2 i row j c x y;rwa [← h1 i row x,hrows row (List.mem_of_getElem? x)]at this) h3
      have hll:=k1.1;rw [flatten_len rows hrows]at hll;refine ⟨_,l,rfl,hll.symm,k1,fun u hu=>?_,run_firstCells_some w.drew n rows.length ⟨b,o,none⟩ rows.length rows.length l hll.symm (fun j u hj=>by rw [Addr.add_lit]; simpa using hi.im _ _ _ (k2 j u hj))⟩
      obtain ⟨j,hj⟩:=List.mem_iff_getElem?.1 hu;exact hi.one _ _ _ (k2 j u hj)
    obtain ⟨base,olds,q1,q2,q3,q4,q5⟩:=key;obtain ⟨cap,cur,a1,a2,a3,a4,a5,a6,a7⟩:=fresh rows base rows.length olds q1 (by omega) hrows q2 q3 q4 q5 c1 c2;obtain ⟨b1,b2,b3⟩:=add_arrT hi (below_da w (.cells cur e)) (by simpa [RowAt.fz] using heap_new w.drew (.cells cur e)) (by rw [List.length_append]; exact a1) a2 a4 a3 a5 a6 ⟨hte,fun _ e=>hnew (List.append_eq_nil_iff.1 e).2⟩;rw [List.length_append]at b2;exact ⟨_,_,_,a7,b3,b1,b2,below_of hi (below_da w _)⟩
   ·cases hev
 | own l ver m=>
  simp only [appAV]at hev;split at hev
  ·rename_i tg sz ver' rows wr hl
   split at hev
   ·rename_i hc
    obtain ⟨rfl,rfl,rfl,rfl⟩:=hc;split at hev
    ·rename_i hnew
     injection hev with hev; injection hev with e1 e2; subst e1 e2
     refine ⟨sv,C,w,?_,.refl C,hi,hs,.refl _ _⟩
     generalize hm:rows.length=m at hs;cases hs with
     | ownnil _ _ h1=>exact none_case hnew none 0 0 rfl (Nat.le_refl _)
     | own _ _ _ r h1 hcap=>exact none_case hnew _ _ _ rfl hcap
    ·rename_i hnew
     split at hev
     ·rename_i hc
      obtain ⟨c1,c2⟩:=hc;injection hev with hev; injection hev with e1 e2; subst e1 e2
      have hpos:0<new.length:=List.length_pos_iff.2 hnew;have hfv:C.ar l (ver+new.length)=none:=hi.fv l _ _ _ ver rows true hl (ver+new.length) (by omega);have hll:l<h.length:=(List.getElem?_eq_some_iff.1 hl).1;have finish:∀ (r:RowAt) (cur:Array Value) (w':World),r.size=sz→rows.length+new.length≤r.cap→r.cap≤maxLen→(∀ row∈rows++new,row.length=sz)→w'.heap[r.block]?=some (.cells cur r.elem r.fz)→cur.size=r.cap*sz→B≤r.block→
        RelL (Cx.pure C.im) (rows++new).flatten (cur.toList.take ((rows++new).length*sz))→(∀ u∈cur.toList.take ((rows++new).length*sz),u.oneCell'=true)→(∀ o,C.im r.block o=none)→tagOK (tagJoin tg te) r.elem→
        (∀ b,blockOf C l (.arrT tg sz ver rows true)≠some b→b<w.heap.size→w'.heap[b]?=w.heap[b]?)→(blockOf C l (.arrT tg sz ver rows true)=some r.block∨w.heap.size≤r.block)→w.heap.size≤w'.heap.size→
        (∀ b o u,C.im b o=some u→w'.cell? ⟨b,o,none⟩=some u)→
        ∃ D,C.Le D∧Inv B D (h.set l (.arrT (tagJoin tg te) sz (ver+new.length) (rows++new) true)) w'∧Rel D (.own l (ver+new.length) (rows.length+new.length)) (.slice (some ⟨r.block,0,none⟩) (rows.length+new.length) r.cap):=by
       intro r cur w' e1 f1 f2 f3 f4 f5 f6 f7 f8 f9 ftg f11 f12 f13 f14;subst e1;have he:=ext_addAr (w:=w) (some r) hfv;have har:(C.addAr l (ver+new.length) (some r)).ar l (ver+new.length)=some (some r):=by simp [Cx.addAr]
       refine ⟨C.addAr l (ver+new.length) (some r),he.le,?_,.own _ _ _ r har f1⟩
       refine hi.turn hl he.le f13 (fun b hb hlt=>⟨f11 b hb hlt,fun _=>rfl⟩) f14 hi.one ?_ (fun b hb=>?_) (fun k hk=>?_) (fun k ne2 tg2 sz2 ver2 rows2 wr2 hk v hv=>?_)
       ·exact .inr ⟨r,cur,har,f6,by simpa using f1,f2,f3,f4,f5,f7,f8,fun _ o=>f9 o,(fun e=>by cases e),rfl,ftg,fun _ e=>hnew (List.append_eq_nil_iff.1 e).2⟩
       ·simp only [blockOf,har,Option.some.injEq]at hb; subst hb; exact f12
       ·have:=hi.fr k hk
        refine ⟨this.1,fun v=>?_⟩
        simp only [Cx.addAr]; rw [if_neg (by omega)]; exact this.2 v
       ·simp only [Cx.addAr]
        rw [List.getElem?_set]at hk;by_cases ek:l=k
        ·subst ek
         rw [if_pos rfl,if_pos hll]at hk;injection hk with hk; injection hk with hk000 hk00 hk0 hk; subst hk
         rw [if_neg (by omega)];exact hi.fv l _ _ _ ver rows true hl v (by omega)
        ·rw [if_neg ek]at hk
         rw [if_neg (fun x=>ek x.1.symm)];exact hi.fv k ne2 tg2 sz2 ver2 rows2 wr2 hk v hv
      have joinNew:tagOK (tagJoin tg te) e:=fun t ht=>by
       unfold tagJoin at ht;split at ht
       ·exact hte t ht
       ·cases ht
      have unfresh:∀ o,C.im w.heap.size o=none:=fun o=>by
       cases hc:C.im w.heap.size o with
       | none=>rfl
       | some u=>have:=cell_lt (hi.im _ _ _ hc); omega
      have moved:∀ (base:Option Addr) (sCap:Nat) (olds:List Value),sv=.slice base rows.length sCap→sCap<rows.length+new.length→(∀ row∈rows,row.length=sz)→olds.length=rows.length*sz→RelL (Cx.pure C.im) rows.flatten olds→(∀ u∈olds,u.oneCell'=true)→
        (Builtin.firstCells sz rows.length (.slice base rows.length sCap)).run P w.drew=.ok olds.toArray w.drew→
        ∃ u D w',(Builtin.append_ #[t,tx] ty #[sv,x]).run P w=.ok u w'∧C.Le D∧Inv B D (h.set l (.arrT (tagJoin tg te) sz (ver+new.length) (rows++new) true)) w'∧Rel D (.own l (ver+new.length) (rows.length+new.length)) u∧Keep B w w':=by
       intro base sCap olds q1 q2 q3 q4 q5 q6 q7;obtain ⟨cap,cur,a1,a2,a3,a4,a5,a6,a7⟩:=fresh rows base sCap olds q1 q2 q3 q4 q5 q6 q7 c1 c2;obtain ⟨D,b1,b2,b3⟩:=finish ⟨w.heap.size,cap,sz,e,false⟩ cur _ rfl a1 a2 a4 (by simpa [RowAt.fz] using heap_new w.drew (.cells cur e)) a3 hi.hB a5 a6 unfresh (joinNew) (fun b _ hlt=>(below_da w (.cells cur e)).block b hlt) (.inr (Nat.le_refl _)) (below_da w (.cells cur e)).size (im_grow hi (below_da w _));exact ⟨_,D,_,a7,b1,b2,b3,below_of hi (below_da w _)⟩
      rcases hi.ok l _ hl with ⟨k1,k2⟩ | ⟨r,cur,k1,k2,k3,k4,k5,k6,k7,k8,k8',k9,k10,k11⟩
      ·
       subst k2;have hsv:sv=.slice none 0 0:=by
        cases hs with
        | ownnil _ _ _=>rfl
        | own _ _ _ r h1 _=>rw [k1]at h1; cases h1
       exact moved none 0 [] hsv (by simpa using hpos) (by simp) (by simp) .nil (by simp) (by simpa using run_firstCells_none (P:=P) w.drew sz 0 0 0)
      ·obtain ⟨k11,k12⟩:=k11
       subst k11;have hsv:sv=.slice (some ⟨r.block,0,none⟩) rows.length r.cap:=by
        generalize rows.length=m at hs;cases hs with
        | ownnil _ _ h1=>rw [k1]at h1; cases h1
        | own _ _ _ r' h1 _=>rw [k1]at h1; injection h1 with h1; injection h1 with h1; subst h1; rfl
       have hblk:blockOf C l (.arrT tg r.size ver rows true)=some r.block:=by simp [blockOf,k1]
       have hm2:rows.length*r.size≤cur.size:=by rw [k7]; exact Nat.mul_le_mul_right _ k3
       have hfl:=flatten_len rows k5;by_cases hroom:rows.length+new.length≤r.cap
       ·
        have hm3:(rows.length+new.length)*r.size≤cur.size:=by rw [k7]; exact Nat.mul_le_mul_right _ hroom
        have hnl':news.length=new.length*r.size:=by rw [hnl,hsize]
        rw [Nat.add_mul]at hm3;have hnone:Src P i.size tx x new.length news w:=hsrc;have hrun:=run_append_room_src (P:=P) w t tx ty e i ht hii r.block 0 rows.length r.cap x new.length news hnone hroom
         (fun j hj=>by rw [cell_of_heap k6,hsize]; simp; omega)
         (fun j hj=>by rw [hsize]; exact RowAt.thaw k6 (by rw [k7]at hm3; omega))
        rw [Nat.zero_add,hsize]at hrun;have hheap:=setCells_heap news (rows.length*r.size) w cur k6 (by omega);have htk:((cur.toList.take (rows.length*r.size)++news++cur.toList.drop (rows.length*r.size+news.length)).toArray).toList.take ((rows++new).length*r.size)=cur.toList.take (rows.length*r.size)++news:=by
         simp only;rw [List.take_append_of_le_length (by simp; rw [Nat.add_mul]; omega),List.take_of_length_le (by simp; rw [Nat.add_mul]; omega)]
        obtain ⟨D,b1,b2,b3⟩:=finish r _ _ rfl hroom k4 (fun row hr=>by
          rcases List.mem_append.1 hr with hr | hr
          ·exact k5 row hr
          ·exact hall row hr) hheap (by simp; omega) k2 (by rw [htk,flatApp]; exact k8.append hrel) (fun u hu=>by
          rw [htk]at hu;rcases List.mem_append.1 hu with hu | hu
          ·exact k8' u hu
          ·exact hsrc.one u hu) (k9 rfl) (fun t ht=>by
          unfold tagJoin at ht;split at ht
          ·rename_i he; exact k12.1 t (by rw [he]; exact ht)
          ·cases ht) (fun b hb _=>setCells_other r.block news _ w b (fun e=>hb (by rw [hblk,e]))) (.inl hblk) (by rw [setCells_size]; exact Nat.le_refl _) (fun b o u hu=>by
          have hne:b≠r.block:=fun e=>by subst e; rw [k9 rfl o]at hu; cases hu
          have:=hi.im _ _ _ hu;simp only [World.cell?]at this ⊢;rw [setCells_other r.block news _ w b hne]; exact this)
        exact ⟨_,D,_,by rw [hsv]; exact hrun,b1,b2,b3,setCells_below k2 _ _ _⟩
       ·have hol:(cur.toList.take (rows.length*r.size)).length=rows.length*r.size:=by simp; omega
        exact moved (some ⟨r.block,0,none⟩) r.cap (cur.toList.take (rows.length*r.size)) hsv (by omega) k5 hol k8 k8'
         (run_firstCells_some w.drew r.size rows.length ⟨r.block,0,none⟩ rows.length r.cap _ hol (fun j u hj=>by
          rw [Addr.add_lit,World.cell?_drew,cell_of_heap k6,Nat.zero_add];rw [List.getElem?_take]at hj;split at hj
          ·simpa using hj
          ·cases hj))
     ·cases hev
   ·cases hev
  ·cases hev
 | _=>simp [appAV]at hev
end
end Go.Proofs.YtpefhfiehfkocaaGreatDoor
namespace Go.Proofs.YtpefhfiehfkocaaGreatDoor
open Go.RowKit
section
variable {P:Program} {B:Base} {C D:Cx} {h:Heap} {w w':World} {G:Gam}
def World.put(w:World)(b:Nat)(o:Obj):World:={ w with heap:=w.heap.setIfInBounds b o }
theorem put_same{b:Nat}{o o':Obj}(hb:w.heap[b]?=some o'):(World.put w b o).heap[b]?=some o:=by
 simp [World.put,heap_lt hb]
theorem put_other{b k:Nat}{o:Obj}(hk:k≠b):(World.put w b o).heap[k]?=w.heap[k]?:=by
 simp only [World.put,Array.getElem?_setIfInBounds]
 rw [if_neg (fun e=>hk e.symm)]
theorem put_size{b:Nat}{o:Obj}:(World.put w b o).heap.size=w.heap.size:=by simp [World.put]
theorem put_below{b:Nat}{o o':Obj}(hb:B≤b)(ho:w.heap[b]?=some o')(hd:∀ c,o'≠.deferred c):Keep B w (World.put w b o):=⟨⟨rfl,rfl,rfl,by rw [put_size]; exact Nat.le_refl _,fun k hk=>put_other (by omega)⟩,fun k c hk=>by
 by_cases e:k=b
 ·subst e; rw [ho]at hk; injection hk with hk; exact absurd hk (hd c)
 ·rw [put_other e]; exact hk⟩
theorem put_cell{b k o:Nat}{x:Obj}{u:Value}(hk:k≠b)(hc:w.cell? ⟨k,o,none⟩=some u):(World.put w b x).cell? ⟨k,o,none⟩=some u:=by
 simp only [World.cell?]at hc ⊢
 rw [put_other hk]; exact hc
theorem turn_obj(hi:Inv B C h w){l b:Nat}{blk blk':Blk}{o o':Obj}(hl:h[l]?=some blk)(hb:C.bl l=some b)(hbo:blockOf C l blk=some b)(hob:w.heap[b]?=some o)(hnc:∀ c e f,o≠.cells c e f)(hB:B≤b)
  (hok:BlkOK B C (World.put w b o') l blk') (hbo':∀ b',blockOf C l blk'=some b'→b'=b) (hna:∀ ne tg sz ver rows wr,blk'≠.arrX ne tg sz ver rows wr) :
  Inv B C (h.set l blk') (World.put w b o'):=by
 refine hi.turn hl (.refl C) (by rw [put_size]; exact Nat.le_refl _) (fun b' hb' _=>⟨put_other (fun e=>hb' (by rw [hbo,e])),fun _=>rfl⟩) (fun b' o2 u hu=>?_) hi.one hok (fun b' hb'=>.inl (by rw [hbo,hbo' b' hb'])) hi.fr (fun k ne tg sz ver rows wr hk v hv=>?_)
 ·have hc:=hi.im _ _ _ hu
  have hne:b'≠b:=fun e=>by
   subst e;simp only [World.cell?,hob]at hc;cases o <;> simp at hc
   rename_i c e f;exact hnc c e f rfl
  exact put_cell hne hc
 ·rw [List.getElem?_set]at hk
  split at hk
  ·split at hk
   ·injection hk with hk; exact absurd hk (hna _ _ _ _ _ _)
   ·cases hk
  ·exact hi.fv k ne tg sz ver rows wr hk v hv
theorem key_any{e:EK}{k:AV}{y:Value}(h:isKey e k=true)(hr:Rel C k y):Rel D k y:=by
 cases e <;> cases k <;> simp only [isKey]at h <;> (first | cases h | skip)
 ·rw [bool_inv hr]; exact .bool _
 ·rw [int_inv hr]; exact .int _ _
 ·rw [str_inv hr]; exact .str _
def KeyTy(e:EK)(d:TypeDesc):Prop:=match e with | .s=>d=.string | .i=>∃ q,d=.int q | .b=>d=.bool
theorem keyKind_spec'{kt:TypeId}{e:EK}(h:keyKind P kt=some e):∃ d,P.underlying kt=some d∧KeyTy e d:=by
 obtain ⟨d,h1,h2⟩:=keyKind_spec h
 exact ⟨d,h1,by cases e <;> exact h2⟩
theorem mapup_sound(hi:Inv B C h w){t kt et:TypeId}{e:EK}(ht:P.underlying t=some (.map kt et))(hk:keyKind P kt=some e){l:Nat}{k v u:AV}{x y z:Value}{h1:Heap}{es es':List (AV×AV)}
  (hx:Rel C (.map l) x) (hy:Rel C k y) (hz:Rel C v z) (hkey:isKey e k=true) (hf:frz h v=some (u,h1)) (hl:h1[l]?=some (.map es)) (hp:mput e k u es=some es') :
  ∃ D w',(Instr.mapUpdate t x y z).run P w=.ok () w'∧C.Le D∧Inv B D (h1.set l (.map es')) w'∧Keep B w w':=by
 obtain ⟨D,d1,d2,d3,d4,d5⟩:=frz_sound hi hf hz
 obtain ⟨d,hkd,hd⟩:=keyKind_spec' hk
 have hd':(match (generalizing:=false) e with | .s=>d=.string | .i=>∃ q,d=.int q | .b=>d=.bool):=by cases e <;> exact hd
 cases hx with
 | map _ b hb=>
  obtain ⟨b',ms,ck,a1,a2,a3,a4,a5,a6,a7⟩:=d2.ok l _ hl;rw [d4,hb]at a1; injection a1 with a1; subst a1
  have hbD:D.bl l=some b:=by rw [d4]; exact hb
  have hyp:Rel (Cx.pure D.im) k y:=key_any hkey hy;have hlen:es.length=ms.toList.length:=by simpa using a4
  rcases mput_now hd' hyp d3 es ms.toList 0 es' hlen (fun i k v m p q=>a5 i k v m p (by simpa using q)) hp with ⟨i,u0,key,b1,b2,b3,b4,b5,b6⟩ | ⟨b1,b2⟩
  ·have hrun:(Instr.mapUpdate t (.map (some b)) y z).run P w=.ok () (World.put w b (.map (ms.modify i fun m=>{ m with key:=y,val:=z }) ck)):=by
    have hg:(ms[i]?).map (·.key)=some key:=by simpa using b2
    simp only [Instr.mapUpdate,Sem.run_bind,run_underlying ht,Result.andThen_ok,getObj,Sem.run,a3,run_checkKey hd' hkd,Instr.findKey,run_underlying hkd,b1,Sem.run_pure,Nat.zero_add];simp [hg,Instr.keyThatStays,b3,setObj,Sem.run,a3,World.put]
   refine ⟨D,_,hrun,d1,turn_obj d2 hl hbD (by simp [blockOf,hbD]) a3 (fun c e f=>by simp) a2 ?_ (fun b' hb'=>by simp [blockOf,hbD]at hb'; exact hb'.symm) (fun _ _ _ _=>by simp),put_below a2 a3 (fun c=>by simp)⟩
   refine ⟨b,_,ck,hbD,a2,put_same a3,?_,(fun j k v m p q=>?_),by simpa using a6,fun j m q=>?_⟩
   ·simpa using b5
   ·refine b6 j k v m p ?_
    rw [← Array.toList_modify,Array.getElem?_toList]; exact q
   ·rw [Array.getElem?_modify]at q
    split at q
    ·simp only [Option.map_eq_some_iff]at q
     obtain ⟨m0,q1,rfl⟩:=q;exact a7 j m0 q1
    ·exact a7 j m q
  ·subst b2
   have hrun:(Instr.mapUpdate t (.map (some b)) y z).run P w=.ok () (World.put w b (.map (ms.push { key:=y,val:=z,born:=ck }) (ck+1))):=by
    simp only [Instr.mapUpdate,Sem.run_bind,run_underlying ht,Result.andThen_ok,getObj,Sem.run,a3,run_checkKey hd' hkd,Instr.findKey,run_underlying hkd,b1,Sem.run_pure];simp [setObj,Sem.run,a3,World.put]
   refine ⟨D,_,hrun,d1,turn_obj d2 hl hbD (by simp [blockOf,hbD]) a3 (fun c e f=>by simp) a2 ?_ (fun b' hb'=>by simp [blockOf,hbD]at hb'; exact hb'.symm) (fun _ _ _ _=>by simp),put_below a2 a3 (fun c=>by simp)⟩
   refine ⟨b,_,ck+1,hbD,a2,put_same a3,by simp [a4],(fun j k' v' m p q=>?_),by simp [a6],fun j m q=>?_⟩
   rotate_left
   ·rw [Array.getElem?_push]at q
    split at q
    ·rename_i e
     injection q with q; subst q; show ck=j; omega
    ·exact a7 j m q
   by_cases hj:j<es.length
   ·rw [List.getElem?_append_left hj]at p
    rw [Array.getElem?_push,if_neg (by omega)]at q;exact a5 j k' v' m p q
   ·rw [List.getElem?_append_right (by omega)]at p
    have hj0:j-es.length=0:=by
     rcases Nat.eq_zero_or_pos (j-es.length)with e | e
     ·exact e
     ·rw [List.getElem?_eq_none (by simp; omega)]at p; cases p
    rw [hj0]at p; simp at p;obtain ⟨rfl,rfl⟩:=p;rw [Array.getElem?_push,if_pos (by omega)]at q;injection q with q; subst q
    exact ⟨hyp,d3⟩
theorem zero_cells{e:TypeId}{z:List AV}(hz:tzero P e=some z):z.all oneC=true:=by
 unfold tzero at hz
 cases hi:P.info? e with
 | none=>simp [hi]at hz
 | some i=>
  cases hzz:i.zero with
  | none=>simp [hi,hzz]at hz
  | some zv=>
   simp [hi,hzz]at hz;have:∀ (vs:List Value) (as:List AV),ofCells vs=some as→as.all oneC=true:=by
    intro vs;induction vs with
    | nil=>intro as h; simp [ofCells]at h; subst h; rfl
    | cons v vs ih=>
     intro as h;simp only [ofCells]at h;split at h
     ·rename_i a as' h1 h2
      injection h with h; subst h
      simp only [List.all_cons,ih as' h2,Bool.and_true];unfold ofCell at h1;split at h1 <;> (first | cases h1 | skip) <;> rfl
     ·cases h
   exact this _ _ hz
theorem zero_pure{e:TypeId}{z:List AV}(hz:tzero P e=some z)(I:Nat→Nat→Option Value):∃ i zv,P.info? e=some i∧i.zero=some zv∧RelL (Cx.pure I) z zv.cells.toList:=tzero_rel hz
theorem madeCells_list(z:Array Value)(n:Nat)(hz:0<z.size):(madeCells z (n*z.size)).toList=(List.replicate n z.toList).flatten:=by
 apply List.ext_getElem?
 intro k
 by_cases hk:k<n*z.size
 ·have hq:k / z.size<n:=Nat.div_lt_of_lt_mul (by rwa [Nat.mul_comm]at hk)
  have hm:k % z.size<z.size:=Nat.mod_lt _ hz;have h1:(madeCells z (n*z.size)).toList[k]?=some z[k % z.size]:=by
   simp [madeCells,hk];rw [getElem!_pos z (k % z.size) hm]
  rw [h1];have key:∀ (n q r:Nat),q<n→r<z.size→((List.replicate n z.toList).flatten)[q*z.size+r]?=z.toList[r]?:=by
   intro n;induction n with
   | zero=>intro q r h; omega
   | succ n ih=>
    intro q r h hr;rw [List.replicate_succ,List.flatten_cons];cases q with
    | zero=>rw [List.getElem?_append_left (by simpa using hr)]; simp
    | succ q=>
     rw [List.getElem?_append_right (by simp; rw [Nat.add_mul]; omega)];simp only [Array.length_toList];rw [show (q+1)*z.size+r-z.size=q*z.size+r by rw [Nat.add_mul]; omega];exact ih q r (by omega) hr
  have:=key n (k / z.size) (k % z.size) hq hm;rw [Nat.mul_comm,Nat.div_add_mod]at this;rw [this]; simp [hm]
 ·rw [List.getElem?_eq_none (by simp [madeCells]; omega),List.getElem?_eq_none (by simp; omega)]
theorem mksl_sound(hi:Inv B C h w){t e:TypeId}{z:List AV}{bytes n:Nat}(ht:P.underlying t=some (.slice e))(hz:tzero P e=some z)(hb:tbytes P e=some bytes)(hn:tsize P e=some n)(hzl:z.length=n)(h0:0<n)
  {k1 k2:IntKind} {l c:Int} (c0:0≤l) (c1:l≤c) (c2:c.toNat*bytes≤byteMax) (c3:c.toNat≤byteMax) :
  ∃ D,(Instr.makeSlice t (.int k1 l) (.int k2 c)).run P w=.ok (.slice (some ⟨w.heap.size,0,none⟩) l.toNat c.toNat) (w.alloc (.cells (madeCells (((P.info? e).bind (·.zero)).getD undef).cells (c.toNat*n)) e))∧
   C.Le D∧Inv B D (h++[.arr z.length 0 (List.replicate l.toNat z) true]) (w.alloc (.cells (madeCells (((P.info? e).bind (·.zero)).getD undef).cells (c.toNat*n)) e))∧Rel D (.own h.length 0 l.toNat) (.slice (some ⟨w.heap.size,0,none⟩) l.toNat c.toNat):=by
 obtain ⟨i,zv,hii,hzz,hzr⟩:=zero_pure hz C.im
 have hsize:i.size=n:=by simpa [tsize,hii] using hn
 have hbytes:i.bytes=bytes:=by simpa [tbytes,hii] using hb
 have hzs:zv.cells.size=n:=by have:=hzr.1; simp at this; omega
 have hzg:(((P.info? e).bind (·.zero)).getD undef)=zv:=by simp [hii,hzz]
 rw [hzg]
 have hb1:(i.bytes:Int)*c≤281474976710656:=by
  rw [hbytes];unfold byteMax at c2;have hc:c=(c.toNat:Int):=by omega
  rw [hc,← Int.natCast_mul,Nat.mul_comm];omega
 have hrun:=run_make (P:=P) w t e i zv ht hii hzz k1 k2 l c c0 c1 hb1 (by unfold byteMax at c3; omega)
 rw [hsize]at hrun
 have hflat:∀ m,RelL (Cx.pure C.im) (List.replicate m z).flatten (List.replicate m zv.cells.toList).flatten:=by
  intro m;induction m with
  | zero=>exact .nil
  | succ m ih=>rw [List.replicate_succ,List.replicate_succ,List.flatten_cons,List.flatten_cons]; exact hzr.append ih
 have hml:(madeCells zv.cells (c.toNat*n)).toList=(List.replicate c.toNat zv.cells.toList).flatten:=by
  rw [← hzs]; exact madeCells_list _ _ (by omega)
 have htake:(madeCells zv.cells (c.toNat*n)).toList.take (l.toNat*n)=(List.replicate l.toNat zv.cells.toList).flatten:=by
  rw [hml,show c.toNat=l.toNat+(c.toNat-l.toNat)by omega,← List.replicate_append_replicate,List.flatten_append];have hll:((List.replicate l.toNat zv.cells.toList).flatten).length=l.toNat*n:=by simp [hzs]
  rw [List.take_append_of_le_length (by omega),List.take_of_length_le (by omega)]
 obtain ⟨b1,b2,b3⟩:=add_arr hi (rows:=List.replicate l.toNat z) (cap:=c.toNat) (size:=n) (e:=e) (cur:=madeCells zv.cells (c.toNat*n)) (below_alloc w _) (heap_new w _) (by simp; omega) (by unfold byteMax at c3; unfold maxLen; omega)
  (fun row hr=>by rw [List.eq_of_mem_replicate hr]; exact hzl) (by rw [size_madeCells]) (by rw [List.length_replicate,htake]; exact hflat _) (fun u hu=>by
   rw [List.length_replicate,htake]at hu;obtain ⟨l',h1,h2⟩:=List.mem_flatten.1 hu;rw [List.eq_of_mem_replicate h1]at h2;exact onesC_rel hzr (zero_cells hz) u h2)
 rw [List.length_replicate]at b2
 exact ⟨_,hrun,b3,by rw [hzl]; exact b1,b2⟩
end
end Go.Proofs.YtpefhfiehfkocaaGreatDoor
namespace Go.Proofs.YtpefhfiehfkocaaGreatDoor
open Go.RowKit
section
variable {P:Program} {B:Base} {C D:Cx} {h:Heap} {w w':World} {G:Gam}
def rowPl(n:Nat):Nat→Option (Nat×Nat):=fun i=>some (i*n,n)
theorem bld_rows{n:Nat}(h0:0<n):∀ (vs:List AV) (pre:List AV) (k:Nat),pre.length=k*n→sizesOk n (vs.map AV.cells)=true→
  bldAV (pre++List.replicate (vs.length*n) AV.junk) ((List.range' k vs.length).map fun i=>(i*n,n)) vs=some (pre++(vs.map AV.cells).flatten)
 | [],pre,k,_,_=>by simp [bldAV]
 | v::vs,pre,k,hp,hs=>by
  simp only [List.map_cons,sizesOk,Bool.and_eq_true,decide_eq_true_eq]at hs;obtain ⟨s1,s2⟩:=hs;rw [List.length_cons,List.range'_succ,List.map_cons];simp only [bldAV];rw [if_pos ⟨s1,h0,by simp [hp]; rw [Nat.add_mul]; omega⟩];rw [setAt_splice _ _ _ (by simp [hp,s1]; rw [Nat.add_mul]; omega)];have e1:(pre++List.replicate ((vs.length+1)*n) AV.junk).take (k*n)=pre:=by rw [← hp]; simp
  have e2:(pre++List.replicate ((vs.length+1)*n) AV.junk).drop (k*n+v.cells.length)=List.replicate (vs.length*n) AV.junk:=by
   rw [List.drop_append,List.drop_of_length_le (by omega),hp,List.drop_replicate,s1];rw [show (vs.length+1)*n-(k*n+n-k*n)=vs.length*n by rw [Nat.add_mul]; omega];simp
  rw [e1,e2];have:=bld_rows h0 vs (pre++v.cells) (k+1) (by rw [List.length_append,hp,s1,Nat.add_mul]; omega) s2;rw [this]; simp
theorem places_rows{n:Nat}:∀ (parts:List (Nat×Operand)),placesOf (rowPl n) parts=some (parts.map fun p=>(p.1*n,n))
 | []=>rfl
 | (i,x)::r=>by simp [placesOf,rowPl,places_rows r]
theorem junks{n:Nat}{us:List Value}(h:us.length=n):RelL C (List.replicate n .junk) us:=
 ⟨by simp [h],fun i c v hc _=>by
  rw [List.getElem?_replicate]at hc;split at hc
  ·injection hc with hc; subst hc; exact .junk v
  ·cases hc⟩
theorem run_buildSlice{t e:TypeId}{i:TypeInfo}{z:Value}(ht:P.underlying t=some (.slice e))(hi:P.info? e=some i)(hz:i.zero=some z){len:Nat}(hl:len*i.size≤16777216){parts:Array (Nat×Value)}{Q:Array Value→Prop}
  (hf:∀ base:Array Value,base.size=len*i.size→∃ cells,Instr.fill (rowPl i.size) base parts.toList=some cells∧Q cells) (w:World) :
  ∃ cells,Q cells∧(Instr.buildSlice t len parts).run P w=.ok (.slice (some ⟨w.heap.size,0,none⟩) len len) (w.alloc (.cells cells e)):=by
 have hs:(sizeOf e).run P w=.ok i.size w:=run_sizeOf' (by simp [tsize,hi]) w
 have hzv:(zeroValue e).run P w=.ok z w:=by simp [zeroValue,typeInfo,hi,hz]
 simp only [Instr.buildSlice,Sem.run_bind,run_underlying ht,Result.andThen_ok,hs]
 rw [if_neg (by omega)]
 by_cases h0:len*i.size=0
 ·obtain ⟨cells,this,hq⟩:=hf ((Array.range (len*i.size)).map fun j=>(#[]:Array Value)[j % (#[]:Array Value).size]!) (by simp)
  refine ⟨cells,hq,?_⟩
  unfold rowPl at this;simp only [if_pos h0,Sem.run_bind,Sem.run_pure,Result.andThen_ok];rw [this];simp [newRow]
 ·obtain ⟨cells,this,hq⟩:=hf ((Array.range (len*i.size)).map fun j=>z.cells[j % z.cells.size]!) (by simp)
  refine ⟨cells,hq,?_⟩
  unfold rowPl at this;simp only [if_neg h0,Sem.run_bind,hzv,Sem.run_pure,Result.andThen_ok];rw [this];simp [newRow]
theorem parts_range{parts:List (Nat×Operand)}{len n:Nat}(hp:parts.map (·.1)=List.range len):parts.map (fun p=>(p.1*n,n))=(List.range' 0 parts.length).map fun i=>(i*n,n):=by
 have hl:parts.length=len:=by have:=congrArg List.length hp; simpa using this
 have:(parts.map (·.1)).map (fun i=>(i*n,n))=(List.range len).map fun i=>(i*n,n):=by rw [hp]
 rw [List.map_map]at this
 rw [hl,← List.range_eq_range']
 exact this
theorem onesOk_flat:∀ {rows:List (List AV)},onesOk rows=true→rows.flatten.all oneC=true
 | [],_=>rfl
 | r::rs,h=>by
  simp only [onesOk,Bool.and_eq_true]at h;rw [List.flatten_cons,List.all_append,h.1,onesOk_flat h.2]; rfl
theorem sizesOk_mem{n:Nat}:∀ {rows:List (List AV)},sizesOk n rows=true→∀ row∈rows,row.length=n
 | [],_,row,hr=>by simp at hr
 | r::rs,h,row,hr=>by
  simp only [sizesOk,Bool.and_eq_true,decide_eq_true_eq]at h;rcases List.mem_cons.1 hr with rfl | hr
  ·exact h.1
  ·exact sizesOk_mem h.2 row hr
theorem add_frozen(hi:Inv B C h w){rows:List (List AV)}{cells:Array Value}{e:TypeId}{n:Nat}(hsz:∀ row∈rows,row.length=n)(hr:RelL (Cx.pure C.im) rows.flatten cells.toList)(hone:∀ u∈cells.toList,u.oneCell'=true) :
  ∃ D,C.Le D∧Inv B D h (w.alloc (.cells cells e))∧Rel D (.tsl rows) (.slice (some ⟨w.heap.size,0,none⟩) rows.length rows.length):=by
 have hnone:∀ o,C.im w.heap.size o=none:=fun o=>by
  cases hc:C.im w.heap.size o with
  | none=>rfl
  | some u=>have:=cell_lt (hi.im _ _ _ hc); omega
 have hle:C.Le (C.withRow w.heap.size cells.size cells):=⟨fun b o v x=>by
  show (if b=w.heap.size∧o<cells.size then cells[o]? else C.im b o)=some v
  rw [if_neg (fun e=>by rw [e.1,hnone]at x; cases x)]; exact x,fun _ _ x=>x,fun _ _ _ x=>x⟩
 have himD:∀ b o,b<w.heap.size→(C.withRow w.heap.size cells.size cells).im b o=C.im b o:=fun b o hb=>by
  show (if b=w.heap.size∧o<cells.size then cells[o]? else C.im b o)=_
  rw [if_neg (fun e=>by omega)]
 have hin:∀ b o u,(C.withRow w.heap.size cells.size cells).im b o=some u→(b=w.heap.size∧cells[o]?=some u)∨C.im b o=some u:=fun b o u hx=>by
  have hx':(if b=w.heap.size∧o<cells.size then cells[o]? else C.im b o)=some u:=hx;split at hx'
  ·rename_i e; exact .inl ⟨e.1,hx'⟩
  ·exact .inr hx'
 refine ⟨C.withRow w.heap.size cells.size cells,hle,?_,?_⟩
 ·refine hi.extend ⟨hle,himD⟩ (below_alloc w _) (fun b o u hx=>?_) (fun b o u hx=>?_) hi.fr hi.fv
  ·rcases hin b o u hx with ⟨rfl,hc⟩ | hc
   ·rw [cell_of_heap (heap_new w _)]; exact hc
   ·exact im_grow hi (below_alloc w _) b o u hc
  ·rcases hin b o u hx with ⟨rfl,hc⟩ | hc
   ·exact hone u (by
     obtain ⟨hlt,hg⟩:=Array.getElem?_eq_some_iff.1 hc;rw [← hg]; simp)
   ·exact hi.one b o u hc
 ·have get:∀ (i:Nat) row (j:Nat) c,rows[i]?=some row→row[j]?=some c→∃ u,cells[i*n+j]?=some u∧Rel (Cx.pure C.im) c u:=fun i row j c h1 h2=>by
   obtain ⟨u,h3,h4⟩:=hr.get (flatten_get rows hsz i j row c h1 h2);exact ⟨u,by simpa using h3,h4⟩
  refine .tsl rows _ _ n (fun i j=>(cells[i*n+j]?).getD undef) (fun i row h1=>hsz row (List.mem_of_getElem? h1)) (fun i row j c h1 h2=>?_) (fun i row j c h1 h2=>?_)
  ·obtain ⟨u,h3,_⟩:=get i row j c h1 h2
   show (if w.heap.size=w.heap.size∧0+i*n+j<cells.size then cells[0+i*n+j]? else _)=_
   rw [if_pos ⟨rfl,by have:=(Array.getElem?_eq_some_iff.1 h3).1; omega⟩,Nat.zero_add,h3]; rfl
  ·obtain ⟨u,h3,h4⟩:=get i row j c h1 h2
   show Rel _ c ((cells[i*n+j]?).getD undef)
   rw [h3]; exact h4.mono (pure_le hle.im)
theorem bsl_sound(hi:Inv B C h w){t e:TypeId}{n len:Nat}{z:List AV}{own:Bool}(ht:P.underlying t=some (.slice e))(hn:tsize P e=some n)(hz:tzero P e=some z){parts:Array (Nat×Operand)}(hp:parts.toList.map (·.1)=List.range len){ρ:Operand→Value}
  {vals:List AV} {v:AV} {h':Heap} (hrel:RelL C vals ((parts.toList.map (·.2)).map ρ)) (hev:evalEff G h (.bsl own n) vals=some (v,h')) :
  ∃ u D w',(Instr.buildSlice t len (parts.map fun (i,x)=>(i,ρ x))).run P w=.ok u w'∧C.Le D∧Inv B D h' w'∧Rel D v u∧Keep B w w':=by
 simp only [evalEff]at hev
 cases hf:frzL h vals with
 | none=>simp [hf]at hev
 | some uh=>
  obtain ⟨us,h1⟩:=uh;simp only [hf]at hev;split at hev
  ·rename_i hcond
   obtain ⟨s1,s2,s3,s4⟩:=hcond;obtain ⟨D,d1,d2,d3,d4,d5⟩:=frzL_sound hi hf hrel;obtain ⟨i,zv,hii,hzz,_⟩:=tzero_rel (C:=C) hz;have hsize:i.size=n:=by simpa [tsize,hii] using hn
   have hul:us.length=parts.toList.length:=by have:=d3.1; simpa using this
   have hpl:parts.toList.length=len:=by have:=congrArg List.length hp; simpa using this
   have hb:=bld_rows s3 us [] 0 (by simp) s1;rw [List.nil_append,List.nil_append,hul,← parts_range hp]at hb;have hd3:RelL (Cx.pure D.im) us (parts.toList.map fun p=>ρ p.2):=by rw [List.map_map]at d3; exact d3
   have hfl:(us.map AV.cells).flatten.length=us.length*n:=by rw [flatten_len _ (sizesOk_mem s1)]; simp
   have hfill:∀ base:Array Value,base.size=len*i.size→∃ cells,Instr.fill (rowPl i.size) base (parts.map fun (x:Nat×Operand)=>(x.1,ρ x.2)).toList=some cells∧RelL (Cx.pure D.im) (us.map AV.cells).flatten cells.toList:=by
    intro base hbase;obtain ⟨cells,c1,c2⟩:=bld_fill (rowPl i.size) parts.toList ρ _ (List.replicate (parts.toList.length*n) .junk) base us _ (by rw [hsize]; exact places_rows _) (junks (by simp; rw [hbase,hsize,← hpl]; simp)) hd3 hb;refine ⟨cells,?_,c2⟩
    rw [← c1]; simp
   obtain ⟨cells,f2,hrun⟩:=run_buildSlice ht hii hzz (by rw [hsize,← hpl,← hul]; exact s4) hfill w;have hlen:len=(us.map AV.cells).length:=by simp; omega
   have hones:=onesC_rel f2 (onesOk_flat s2);split at hev
   ·simp only [Option.some.injEq,Prod.mk.injEq]at hev
    obtain ⟨rfl,rfl⟩:=hev;have hcl:cells.toList.length=us.length*n:=by rw [← f2.1,hfl]
    have htk:cells.toList.take ((us.map AV.cells).length*n)=cells.toList:=List.take_of_length_le (by simp at hcl ⊢; omega);obtain ⟨b1,b2,b3⟩:=add_arr d2 (rows:=us.map AV.cells) (cap:=len) (size:=n) (e:=e) (cur:=cells) (below_alloc w _) (heap_new w _) (by omega) (by
      have:len*1≤len*n:=Nat.mul_le_mul_left _ s3;have h4:len*n≤16777216:=by rw [← hpl,← hul]; exact s4
      unfold maxLen; omega) (sizesOk_mem s1) (by simp at hcl; rw [hcl,hul,hpl]) (by rw [htk]; exact f2) (by rw [htk]; exact hones)
    refine ⟨_,_,_,hrun,d1.trans b3,b1,?_,below_of hi (below_alloc w _)⟩
    rw [List.length_map]at b2;rw [show len=us.length by omega]at b2 ⊢;exact b2
   ·simp only [Option.some.injEq,Prod.mk.injEq]at hev
    obtain ⟨rfl,rfl⟩:=hev;obtain ⟨E,e1,e2,e3⟩:=add_frozen (e:=e) d2 (sizesOk_mem s1) f2 hones;refine ⟨_,_,_,hrun,d1.trans e1,e2,?_,below_of hi (below_alloc w _)⟩
    rw [hlen]; exact e3
  ·cases hev
theorem bslK_sound(hi:Inv B C h w){t e:TypeId}{n len:Nat}{z:List AV}{own:Bool}(ht:P.underlying t=some (.slice e))(hn:tsize P e=some n)(hz:tzero P e=some z){parts:Array (Nat×Operand)}(hp:parts.toList.map (·.1)=List.range len){ρ:Operand→Value}
  {vals:List AV} {v:AV} {h':Heap} (hrel:RelL C vals ((parts.toList.map (·.2)).map ρ)) (hev:evalEff G h (.bslK own n) vals=some (v,h')) :
  ∃ u D w',(Instr.buildSlice t len (parts.map fun (i,x)=>(i,ρ x))).run P w=.ok u w'∧C.Le D∧Inv B D h' w'∧Rel D v u∧Keep B w w':=by
 simp only [evalEff]at hev
 cases hf:frzKL h vals with
 | none=>simp [hf]at hev
 | some uh=>
  obtain ⟨us,h1⟩:=uh;simp only [hf]at hev;split at hev
  ·rename_i hcond
   obtain ⟨s1,s2,s3,s4⟩:=hcond;obtain ⟨D,d1,d2,d3,d4,d5⟩:=frzKL_sound hi hf hrel;obtain ⟨i,zv,hii,hzz,_⟩:=tzero_rel (C:=C) hz;have hsize:i.size=n:=by simpa [tsize,hii] using hn
   have hul:us.length=parts.toList.length:=by have:=d3.1; simpa using this
   have hpl:parts.toList.length=len:=by have:=congrArg List.length hp; simpa using this
   have hb:=bld_rows s3 us [] 0 (by simp) s1;rw [List.nil_append,List.nil_append,hul,← parts_range hp]at hb;have hd3:RelL (Cx.pure D.im) us (parts.toList.map fun p=>ρ p.2):=by rw [List.map_map]at d3; exact d3
   have hfl:(us.map AV.cells).flatten.length=us.length*n:=by rw [flatten_len _ (sizesOk_mem s1)]; simp
   have hfill:∀ base:Array Value,base.size=len*i.size→∃ cells,Instr.fill (rowPl i.size) base (parts.map fun (x:Nat×Operand)=>(x.1,ρ x.2)).toList=some cells∧RelL (Cx.pure D.im) (us.map AV.cells).flatten cells.toList:=by
    intro base hbase;obtain ⟨cells,c1,c2⟩:=bld_fill (rowPl i.size) parts.toList ρ _ (List.replicate (parts.toList.length*n) .junk) base us _ (by rw [hsize]; exact places_rows _) (junks (by simp; rw [hbase,hsize,← hpl]; simp)) hd3 hb;refine ⟨cells,?_,c2⟩
    rw [← c1]; simp
   obtain ⟨cells,f2,hrun⟩:=run_buildSlice ht hii hzz (by rw [hsize,← hpl,← hul]; exact s4) hfill w;have hlen:len=(us.map AV.cells).length:=by simp; omega
   have hones:=onesC_rel f2 (onesOk_flat s2);split at hev
   ·simp only [Option.some.injEq,Prod.mk.injEq]at hev
    obtain ⟨rfl,rfl⟩:=hev;have hcl:cells.toList.length=us.length*n:=by rw [← f2.1,hfl]
    have htk:cells.toList.take ((us.map AV.cells).length*n)=cells.toList:=List.take_of_length_le (by simp at hcl ⊢; omega);obtain ⟨b1,b2,b3⟩:=add_arr d2 (rows:=us.map AV.cells) (cap:=len) (size:=n) (e:=e) (cur:=cells) (below_alloc w _) (heap_new w _) (by omega) (by
      have:len*1≤len*n:=Nat.mul_le_mul_left _ s3;have h4:len*n≤16777216:=by rw [← hpl,← hul]; exact s4
      unfold maxLen; omega) (sizesOk_mem s1) (by simp at hcl; rw [hcl,hul,hpl]) (by rw [htk]; exact f2) (by rw [htk]; exact hones)
    refine ⟨_,_,_,hrun,d1.trans b3,b1,?_,below_of hi (below_alloc w _)⟩
    rw [List.length_map]at b2;rw [show len=us.length by omega]at b2 ⊢;exact b2
   ·simp only [Option.some.injEq,Prod.mk.injEq]at hev
    obtain ⟨rfl,rfl⟩:=hev;obtain ⟨E,e1,e2,e3⟩:=add_frozen (e:=e) d2 (sizesOk_mem s1) f2 hones;refine ⟨_,_,_,hrun,d1.trans e1,e2,?_,below_of hi (below_alloc w _)⟩
    rw [hlen]; exact e3
  ·cases hev
end
end Go.Proofs.YtpefhfiehfkocaaGreatDoor
