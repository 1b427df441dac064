/- Operations that only look,all of them: in every world that has grown,the model does what the small language says. Slices of strings and of slices,struct literals; then all operations that only look -/
import Derived.Test.YtpefhfiehfkocaaGreatDoorAm1
namespace Go.Proofs.YtpefhfiehfkocaaGreatDoor
open Go.RowKit
section
variable {P:Program} {B:Base} {C:Cx} {h:Heap} {w:World}
theorem indexAddr_sound{t e:TypeId}{size:Nat}(hi:Inv B C h w)(ht:P.underlying t=some (.slice e))(hs:tsize P e=some size){a i v:AV}{x y:Value}(hx:Rel C a x)(hy:Rel C i y)
  (hev:iadrAV size h a i=some v):∃ u,Rel C v u∧∀ w,(Instr.indexAt t x y).run P w=.ok u w:=by
 have core:∀ (b o len cap:Nat) (k:IntKind) (n:Int),0≤n→n<len→
   ∀ w,(Instr.indexAt t (.slice (some ⟨b,o,none⟩) len cap) (.int k n)).run P w=.ok (.pointer (some ⟨b,o+n.toNat*size,none⟩)) w:=by
  intro b o len cap k n h0 h1 w;simp [Instr.indexAt,asIntOf,run_underlying ht,h0,h1,run_sizeOf' hs,Addr.add_lit]
 have frozen:∀ (rows:List (List AV)) (k:IntKind) (n:Int) (b o len cap size':Nat) (us:Nat→Nat→Value),len=rows.length→
   (∀ (i:Nat) row,rows[i]?=some row→row.length=size')→(∀ (i:Nat) row (j:Nat) c,rows[i]?=some row→row[j]?=some c→C.im b (o+i*size'+j)=some (us i j))→
   (∀ (i:Nat) row (j:Nat) c,rows[i]?=some row→row[j]?=some c→Rel (Cx.pure C.im) c (us i j))→
   (if 0≤n then (match rows[n.toNat]? with
    | some row=>if row.length=size then some (AV.fptr row 0)else none
    | none=>none)else none)=some v→
   ∃ u,Rel C v u∧∀ w,(Instr.indexAt t (.slice (some ⟨b,o,none⟩) len cap) (.int k n)).run P w=.ok u w:=by
  intro rows k n b o len cap size' us hlen h1 h2 h3 hv;split at hv
  ·rename_i h0
   split at hv
   ·rename_i row hrow
    split at hv
    ·rename_i hl
     injection hv with hv; subst hv
     have hlt:n.toNat<rows.length:=(List.getElem?_eq_some_iff.1 hrow).1;have hsz:=h1 _ _ hrow;rw [hl]at hsz; subst hsz;exact ⟨_,.fptr row 0 b (o+n.toNat*size) (us n.toNat) (fun j c hc=>h2 _ _ _ _ hrow hc) (fun j c hc=>h3 _ _ _ _ hrow hc),fun w=>by
      rw [Nat.add_zero]; exact core b o len cap k n h0 (by omega) w⟩
    ·cases hv
   ·cases hv
  ·cases hv
 cases a with
 | sl rows=>
  cases i with
  | int k n=>
   have:=int_inv hy; subst this;cases hx with
   | slnil=>simp [iadrAV]at hev
   | slz a cap=>simp [iadrAV]at hev
   | sl _ b o cap size' us hcap h1 h2 h3=>exact frozen rows k n b o _ cap size' us rfl h1 h2 h3 hev
  | _=>simp [iadrAV]at hev
 | tsl rows=>
  cases i with
  | int k n=>
   have:=int_inv hy; subst this;cases hx with
   | tslnil=>simp [iadrAV]at hev
   | tslz a=>simp [iadrAV]at hev
   | tsl _ b o size' us h1 h2 h3=>exact frozen rows k n b o _ _ size' us rfl h1 h2 h3 hev
  | _=>simp [iadrAV]at hev
 | own l ver n=>
  cases i with
  | int k m=>
   have:=int_inv hy; subst this;simp only [iadrAV]at hev;split at hev
   ·rename_i sz ver' rows wr hx'
    split at hev
    ·rename_i hc
     obtain ⟨rfl,hn,h0,h1⟩:=hc;split at hev
     ·rename_i row hrow
      split at hev
      ·rename_i hl
       injection hev with hev; subst hev
       cases hx with
       | ownnil _ _ hb=>omega
       | own _ _ _ r hb hcap=>
        rcases hi.ok l _ hx' with ⟨k1,_⟩ | ⟨r',cur,k1,k2,k3,k4,k5,_⟩
        ·rw [hb]at k1; cases k1
        ·rw [hb]at k1; injection k1 with k1; injection k1 with k1; subst k1
         have hsz:=k5 row (List.mem_of_getElem? hrow);refine ⟨_,.eptr l ver m.toNat 0 r hb,fun w=>?_⟩
         rw [core r.block 0 n r.cap k m h0 h1 w,← hsz,hl,Nat.zero_add,Nat.add_zero]
      ·cases hev
     ·cases hev
    ·cases hev
   ·cases hev
  | _=>simp [iadrAV]at hev
 | _=>simp [iadrAV]at hev
theorem size_ba(s:List UInt8):(ByteArray.mk s.toArray).size=s.length:=by show s.toArray.size=_; simp
theorem cells_sl{rows:List (List AV)}{x:Value}(h:Rel C (.sl rows) x):∃ a cap,x=.slice a rows.length cap:=by
 cases h with
 | slnil=>exact ⟨none,0,rfl⟩
 | slz a cap=>exact ⟨some a,cap,rfl⟩
 | sl _ b o cap size us hcap _ _ _=>exact ⟨_,cap,rfl⟩
def LenTy(P:Program)(t:TypeId)(k:Nat):Prop:=match k with | 0=>P.underlying t=some .string | 1=>∃ e,P.underlying t=some (.slice e) | 2=>∃ q e,P.underlying t=some (.map q e) | _=>False
theorem len_sound(hi:Inv B C h w){t ty:TypeId}{x:Value}{a v:AV}{k:Nat}(hx:Rel C a x)(hev:lenAV h k a=some v)
  (ht:LenTy P t k) :
  ∃ u,Rel C v u∧∀ w',Below w.heap.size w w'→(Builtin.len_ #[t] ty #[x]).run P w'=.ok u w':=by
 match k,a with
 | 0,.str s=>
  simp only [lenAV]at hev; injection hev with hev; subst hev
  have:=str_inv hx; subst this;exact ⟨_,.int _ _,fun w' _=>by simp [Builtin.len_,run_underlying ht,goInt,size_ba]⟩
 | 1,.sl rows=>
  simp only [lenAV]at hev; injection hev with hev; subst hev
  obtain ⟨e,ht⟩:=ht;obtain ⟨a,cap,rfl⟩:=cells_sl hx;exact ⟨_,.int _ _,fun w' _=>by simp [Builtin.len_,run_underlying ht,goInt]⟩
 | 1,.tsl rows=>
  simp only [lenAV]at hev; injection hev with hev; subst hev
  obtain ⟨e,ht⟩:=ht;cases hx <;> exact ⟨_,.int _ _,fun w' _=>by simp [Builtin.len_,run_underlying ht,goInt]⟩
 | 1,.nils=>
  simp only [lenAV]at hev; injection hev with hev; subst hev
  obtain ⟨e,ht⟩:=ht;cases hx
  exact ⟨_,.int _ _,fun w' _=>by simp [Builtin.len_,run_underlying ht,goInt]⟩
 | 1,.own l ver n=>
  simp only [lenAV]at hev; injection hev with hev; subst hev
  obtain ⟨e,ht⟩:=ht;cases hx <;> exact ⟨_,.int _ _,fun w' _=>by simp [Builtin.len_,run_underlying ht,goInt]⟩
 | 2,.map l=>
  simp only [lenAV]at hev;split at hev
  ·rename_i es hx'
   injection hev with hev; subst hev
   obtain ⟨q,e,ht⟩:=ht;cases hx with
   | map _ b hb=>
    obtain ⟨b',ms,ck,h1,h2,h3,h4,_⟩:=hi.ok l _ hx';rw [hb]at h1; injection h1 with h1; subst h1
    refine ⟨_,.int _ _,fun w' hw'=>?_⟩
    have h3':=(hw'.block b (heap_lt h3)).trans h3;simp [Builtin.len_,run_underlying ht,goInt,getObj,Sem.run,h3',h4]
  ·cases hev
 | 2,.nilm=>
  simp only [lenAV]at hev; injection hev with hev; subst hev
  obtain ⟨q,e,ht⟩:=ht;cases hx
  exact ⟨_,.int _ _,fun w' _=>by simp [Builtin.len_,run_underlying ht,goInt]⟩
theorem keyEq_now{e:EK}{d:TypeDesc}{k k':AV}{x y:Value}{b:Bool}(hd:match e with | .s=>d=.string | .i=>∃ q,d=.int q | .b=>d=.bool)(hx:Rel C k x)(hy:Rel C k' y)(h:keyEq e k k'=some b) :
  Instr.sameNow d x y=some b:=by
 cases e <;> cases k <;> cases k' <;> simp only [keyEq]at h <;> (first | cases h | skip)
 ·rw [bool_inv hx,bool_inv hy,hd]; simp only [Instr.sameNow]
 ·obtain ⟨q,rfl⟩:=hd
  rw [int_inv hx,int_inv hy]; exact h
 ·rw [str_inv hx,str_inv hy,hd]
  simp only [Instr.sameNow];rw [beq_toListBytes,toList_ba,toList_ba]
theorem mget_now{e:EK}{d:TypeDesc}(hd:match e with | .s=>d=.string | .i=>∃ q,d=.int q | .b=>d=.bool){k:AV}{x:Value}(hx:Rel C k x) :
  ∀ (es:List (AV×AV)) (ms:List MapEntry) (n:Nat) (r:Option AV),es.length=ms.length→(∀ (i:Nat) k v m,es[i]?=some (k,v)→ms[i]?=some m→Rel C k m.key∧Rel C v m.val)→mget e k es=some r→
   match r with
   | some v=>∃ i u,Instr.findNow d x ms n=some (some (i,u))∧Rel C v u
   | none=>Instr.findNow d x ms n=some none
 | [],[],n,r,_,_,h=>by simp [mget]at h; subst h; rfl
 | [],_::_,_,_,hl,_,_=>by simp at hl
 | _::_,[],_,_,hl,_,_=>by simp at hl
 | (k',v)::es,m::ms,n,r,hl,hr,h=>by
  obtain ⟨r1,r2⟩:=hr 0 k' v m rfl rfl;simp only [mget]at h;have ih:=mget_now hd hx es ms (n+1) r (by simpa using hl) (fun i k v m h1 h2=>hr (i+1) k v m (by simpa using h1) (by simpa using h2));split at h
  ·rename_i hk
   injection h with h; subst h
   have:=keyEq_now hd hx r1 hk;exact ⟨n,m.val,by simp [Instr.findNow,this],r2⟩
  ·rename_i hk
   have:=keyEq_now hd hx r1 hk;have ih:=ih h;cases r with
   | none=>simp only [Instr.findNow,this]; exact ih
   | some v=>simp only [Instr.findNow,this]; exact ih
  ·cases h
theorem run_checkKey{e:EK}{kt:TypeId}{d:TypeDesc}(hd:match e with | .s=>d=.string | .i=>∃ q,d=.int q | .b=>d=.bool)(hk:P.underlying kt=some d)(x:Value)(em:Bool)(w:World):(Instr.checkKey em 10000 kt x).run P w=.ok () w:=by
 have h1:∀ n,(Instr.checkKey em (n+1) kt x).run P w=.ok () w:=fun n=>by
  simp only [Instr.checkKey,Sem.run_bind,run_underlying hk,Result.andThen_ok];cases e <;> simp only at hd
  ·subst hd; rfl
  ·obtain ⟨q,rfl⟩:=hd; rfl
  ·subst hd; rfl
 exact h1 9999
theorem run_zeroV{e:TypeId}{z:AV}(hz:tzeroV P e=some z):∃ u,Rel C z u∧∀ w,(zeroValue e).run P w=.ok u w:=by
 unfold tzeroV at hz
 cases hi:P.info? e with
 | none=>simp [hi]at hz
 | some i=>
  cases hzz:i.zero with
  | none=>simp [hi,hzz]at hz
  | some u=>
   simp [hi,hzz]at hz;exact ⟨u,ofValue_rel hz,fun w=>by simp [zeroValue,typeInfo,hi,hzz]⟩
theorem look_sound(hi:Inv B C h w){e:EK}{t kt et:TypeId}{d:TypeDesc}(ht:P.underlying t=some (.map kt et))(hd:match e with | .s=>d=.string | .i=>∃ q,d=.int q | .b=>d=.bool)(hk:P.underlying kt=some d)
  {z:AV} (hz:tzeroV P et=some z) {ok:Bool} {m k v:AV} {x y:Value} (hx:Rel C m x) (hy:Rel C k y)
  (hev:evalPure h (.look e ok z) [m,k]=some v):∃ u,Rel C v u∧∀ w',Below w.heap.size w w'→(Instr.lookup t x y ok).run P w'=.ok u w':=by
 obtain ⟨zu,hzr,hzw⟩:=run_zeroV (C:=C) hz
 simp only [evalPure]at hev
 split at hev
 ·cases m <;> simp only at hev <;> (first | cases hev | skip)
  case map l=>
   split at hev
   ·rename_i es hx'
    cases hx with
    | map _ b hb=>
     obtain ⟨b',ms,ck,h1,h2,h3,h4,h5,_⟩:=hi.ok l _ hx';rw [hb]at h1; injection h1 with h1; subst h1
     cases hg:mget e k es with
     | none=>simp [hg]at hev
     | some r=>
      simp only [hg,Option.map_some,Option.some.injEq]at hev;have hnow:=mget_now hd hy es ms.toList 0 r (by simpa using h4) (fun i k v m h1 h2=>by
       have:=h5 i k v m h1 (by simpa using h2);exact ⟨this.1.mono C.frozen_le,this.2.mono C.frozen_le⟩) hg
      cases r with
      | none=>
       simp only at hev hnow;cases ok with
       | true=>
        simp only [if_true]at hev; subst hev;exact ⟨_,.tup _ #[zu,.bool false] rfl (fun i c u hc hu=>by
         match i with
         | 0=>simp at hc hu; subst hc hu; exact hzr
         | 1=>simp at hc hu; subst hc hu; exact .bool _
         | _+2=>simp at hc),fun w' hw'=>by
         have h3':=(hw'.block b (heap_lt h3)).trans h3;simp [Instr.lookup,run_underlying ht,getObj,Sem.run,h3',run_checkKey hd hk,Instr.findKey,run_underlying hk,hnow,hzw]⟩
       | false=>
        simp only [Bool.false_eq_true,if_false]at hev; subst hev;exact ⟨zu,hzr,fun w' hw'=>by
         have h3':=(hw'.block b (heap_lt h3)).trans h3;simp [Instr.lookup,run_underlying ht,getObj,Sem.run,h3',run_checkKey hd hk,Instr.findKey,run_underlying hk,hnow,hzw]⟩
      | some v'=>
       simp only at hev hnow;obtain ⟨i,u,hn,hr⟩:=hnow;cases ok with
       | true=>
        simp only [if_true]at hev; subst hev;exact ⟨_,.tup _ #[u,.bool true] rfl (fun i c u hc hu=>by
         match i with
         | 0=>simp at hc hu; subst hc hu; exact hr
         | 1=>simp at hc hu; subst hc hu; exact .bool _
         | _+2=>simp at hc),fun w' hw'=>by
         have h3':=(hw'.block b (heap_lt h3)).trans h3;simp [Instr.lookup,run_underlying ht,getObj,Sem.run,h3',run_checkKey hd hk,Instr.findKey,run_underlying hk,hn]⟩
       | false=>
        simp only [Bool.false_eq_true,if_false]at hev; subst hev;exact ⟨u,hr,fun w' hw'=>by
         have h3':=(hw'.block b (heap_lt h3)).trans h3;simp [Instr.lookup,run_underlying ht,getObj,Sem.run,h3',run_checkKey hd hk,Instr.findKey,run_underlying hk,hn]⟩
   ·cases hev
  case isTrue.nilm.refl=>
   cases hx
   cases ok with
   | true=>
    exact ⟨_,.tup _ #[zu,.bool false] rfl (fun i c u hc hu=>by
     match i with
     | 0=>simp at hc hu; subst hc hu; exact hzr
     | 1=>simp at hc hu; subst hc hu; exact .bool _
     | _+2=>simp at hc),fun w' _=>by simp [Instr.lookup,run_underlying ht,run_checkKey hd hk,Instr.findKey,run_underlying hk,Instr.findNow,hzw]⟩
   | false=>
    exact ⟨zu,hzr,fun w' _=>by simp [Instr.lookup,run_underlying ht,run_checkKey hd hk,Instr.findKey,run_underlying hk,Instr.findNow,hzw]⟩
 ·cases hev
end
end Go.Proofs.YtpefhfiehfkocaaGreatDoor
namespace Go.Proofs.YtpefhfiehfkocaaGreatDoor
open Go.RowKit
section
variable {P:Program} {B:Base} {C:Cx} {h:Heap} {w:World}
theorem run_sliceBound_ok{k:IntKind}{i:Int}{y:Nat}{code:BoundsCode}(h0:0≤i)(h1:i≤y)(w:World):(Instr.sliceBound (.int k i) y code).run P w=.ok i.toNat w:=by
 simp [Instr.sliceBound,asIntOf,h0,h1]
def bnd(o:Option (IntKind×Int)):Option Value:=o.map fun q=>.int q.1 q.2
def bndI(o:Option (IntKind×Int)):Option Int:=o.map (·.2)
theorem run_bounds(isS:Bool)(len cap:Nat)(lo hi:Option (IntKind×Int))(hcap:len≤cap)(h0:0≤(bndI lo).getD 0)(h1:(bndI lo).getD 0≤(bndI hi).getD len)(h2:(bndI hi).getD len≤len)(w:World) :
  (Instr.sliceBounds isS len cap (bnd lo) (bnd hi) none).run P w=.ok (((bndI lo).getD 0).toNat,((bndI hi).getD len).toNat,cap) w:=by
 cases lo with
 | none=>
  cases hi with
  | none=>simp [Instr.sliceBounds,bnd,bndI]
  | some q=>
   obtain ⟨k,n⟩:=q;simp [bndI]at h1 h2;have:=fun c=>run_sliceBound_ok (P:=P) (k:=k) (i:=n) (y:=cap) (code:=c) h1 (by omega) w
   simp [Instr.sliceBounds,bnd,bndI,this]
 | some p=>
  obtain ⟨k',m⟩:=p;cases hi with
  | none=>
   simp [bndI]at h0 h1;have:=fun c=>run_sliceBound_ok (P:=P) (k:=k') (i:=m) (y:=len) (code:=c) h0 h1 w
   simp [Instr.sliceBounds,bnd,bndI,this]
  | some q=>
   obtain ⟨k,n⟩:=q;simp [bndI]at h0 h1 h2;have a1:=fun c=>run_sliceBound_ok (P:=P) (k:=k) (i:=n) (y:=cap) (code:=c) (by omega) (by omega) w
   have a2:=fun c=>run_sliceBound_ok (P:=P) (k:=k') (i:=m) (y:=n.toNat) (code:=c) h0 (by omega) w
   simp [Instr.sliceBounds,bnd,bndI,a1,a2]
theorem run_bounds_max(isS:Bool)(len cap:Nat)(lo:Option (IntKind×Int))(k1 k2:IntKind)(n:Int)(h0:0≤(bndI lo).getD 0)(h1:(bndI lo).getD 0≤n)(h2:n≤cap)(w:World) :
  (Instr.sliceBounds isS len cap (bnd lo) (some (.int k1 n)) (some (.int k2 n))).run P w=.ok (((bndI lo).getD 0).toNat,n.toNat,n.toNat) w:=by
 have a0:=fun c=>run_sliceBound_ok (P:=P) (k:=k2) (i:=n) (y:=cap) (code:=c) (by omega) h2 w
 have a1:=fun c=>run_sliceBound_ok (P:=P) (k:=k1) (i:=n) (y:=n.toNat) (code:=c) (by omega) (by omega) w
 cases lo with
 | none=>simp [Instr.sliceBounds,bnd,bndI,a0,a1]
 | some p=>
  obtain ⟨k',m⟩:=p;simp [bndI]at h0 h1;have a2:=fun c=>run_sliceBound_ok (P:=P) (k:=k') (i:=m) (y:=n.toNat) (code:=c) h0 (by omega) w
  simp [Instr.sliceBounds,bnd,bndI,a0,a1,a2]
theorem extract_ba(s:List UInt8)(a b:Nat):(ByteArray.mk s.toArray).extract a b=⟨((s.take b).drop a).toArray⟩:=by
 apply ByteArray.ext
 rw [ByteArray.data_extract]
 apply Array.ext'
 simp [List.drop_take]
theorem rel_sl_part{rows:List (List AV)}{x:Value}{len cap:Nat}{a:Option Addr}(hx:x=.slice a len cap)(h:Rel C (.sl rows) x)(l r:Nat)(hl:l≤r)(hr:r≤rows.length)(size:Nat)
  (hsize:∀ row∈rows,row.length=size) (m:Nat) (hm:m=cap) :
  Rel C (.sl ((rows.take r).drop l)) (.slice (if m=l then a else a.map (·.add (l*size))) (r-l) (m-l)):=by
 subst hm
 cases h with
 | slnil=>
  injection hx with h1 h2 h3; subst h1 h2 h3
  simp at hr; subst hr;have:l=0:=by omega
  subst this;simp; exact .slnil
 | slz a0 cap0=>
  injection hx with h1 h2 h3; subst h1 h2 h3
  simp at hr; subst hr;have:l=0:=by omega
  subst this;simp;split <;> exact .slz _ _
 | sl _ b o cap size' us hcap h1 h2 h3=>
  injection hx with e1 e2 e3; subst e1 e2 e3
  have hlen:((rows.take r).drop l).length=r-l:=by simp; omega
  by_cases hml:cap=l
  ·subst hml
   have hle:r-cap=0:=by omega
   have hnil:(rows.take r).drop cap=[]:=List.eq_nil_of_length_eq_zero (by rw [hlen]; exact hle);rw [hnil,hle];simp;exact .sl [] b o 0 size us (by simp) (by simp) (by simp) (by simp)
  ·simp only [if_neg hml,Option.map_some,Addr.add_lit]
   rw [← hlen];refine .sl _ b (o+l*size) (cap-l) size (fun i j=>us (l+i) j) (by rw [hlen]; omega) ?_ ?_ ?_
   ·intro i row hrow
    exact hsize row (List.mem_of_mem_take (List.mem_of_mem_drop (List.mem_of_getElem? hrow)))
   ·intro i row j c hrow hc
    rw [List.getElem?_drop,List.getElem?_take]at hrow;split at hrow
    ·have e:=h1 _ _ hrow
     have e':=hsize row (List.mem_of_getElem? hrow);have:=h2 _ _ _ _ hrow hc;rw [← e,e']at this;rw [← this]; congr 1; rw [Nat.add_mul]; omega
    ·cases hrow
   ·intro i row j c hrow hc
    rw [List.getElem?_drop,List.getElem?_take]at hrow;split at hrow
    ·exact h3 _ _ _ _ hrow hc
    ·cases hrow
theorem sizesOk_all{n:Nat}:∀ {rows:List (List AV)},sizesOk n rows=true→∀ row∈rows,row.length=n
 | [],_,row,h=>by simp at h
 | r::rs,hs,row,h=>by
  simp only [sizesOk,Bool.and_eq_true,decide_eq_true_eq]at hs;rcases List.mem_cons.1 h with rfl | h
  ·exact hs.1
  ·exact sizesOk_all hs.2 row h
theorem rel_tsl_sl{rows:List (List AV)}{x:Value}(h:Rel C (.tsl rows) x):Rel C (.sl rows) x:=by
 cases h with
 | tslnil=>exact .slnil
 | tslz a=>exact .slz a 0
 | tsl _ b o size us h1 h2 h3=>exact .sl rows b o rows.length size us (Nat.le_refl _) h1 h2 h3
theorem rel_sl_tight{rows:List (List AV)}{b o len cap:Nat}(h:Rel C (.sl rows) (.slice (some ⟨b,o,none⟩) len cap))(l r:Nat)(hl:l≤r)(hr:r≤rows.length)(size:Nat)
  (hsize:∀ row∈rows,row.length=size) :
  Rel C (.tsl ((rows.take r).drop l)) (.slice (if r=l then some ⟨b,o,none⟩else (some (⟨b,o,none⟩:Addr)).map (·.add (l*size))) (r-l) (r-l)):=by
 have hlen:((rows.take r).drop l).length=r-l:=by simp; omega
 cases h with
 | slz a0 cap0=>
  simp at hr; subst hr;have:l=0:=by omega
  subst this;simp;exact .tslz _
 | sl _ _ _ _ size' us hcap h1 h2 h3=>
  have key:Rel C (.tsl ((rows.take r).drop l)) (.slice (some ⟨b,o+l*size,none⟩) ((rows.take r).drop l).length ((rows.take r).drop l).length):=by
   refine .tsl _ b (o+l*size) size (fun i j=>us (l+i) j) ?_ ?_ ?_
   ·intro i row hrow
    exact hsize row (List.mem_of_mem_take (List.mem_of_mem_drop (List.mem_of_getElem? hrow)))
   ·intro i row j c hrow hc
    rw [List.getElem?_drop,List.getElem?_take]at hrow;split at hrow
    ·have e:=h1 _ _ hrow
     have e':=hsize row (List.mem_of_getElem? hrow);have:=h2 _ _ _ _ hrow hc;rw [← e,e']at this;rw [← this]; congr 1; rw [Nat.add_mul]; omega
    ·cases hrow
   ·intro i row j c hrow hc
    rw [List.getElem?_drop,List.getElem?_take]at hrow;split at hrow
    ·exact h3 _ _ _ _ hrow hc
    ·cases hrow
  by_cases e:r=l
  ·subst e
   have hnil:(rows.take r).drop r=[]:=List.eq_nil_of_length_eq_zero (by rw [hlen]; omega);rw [hnil];simp;exact .tsl [] b o size us (by simp) (by simp) (by simp)
  ·simp only [if_neg e,Option.map_some,Addr.add_lit]
   rw [hlen]at key;exact key
theorem slc1_inv{o:Option Operand}{ρ:Operand→Value}{rest:List Value}{bs bs':List AV}{l:Option Int}(hrel:RelL C bs (o.toList.map ρ++rest))(h:slc1 o.isSome bs=some (l,bs')) :
  ∃ l':Option (IntKind×Int),o.map ρ=bnd l'∧l=bndI l'∧RelL C bs' rest:=by
 cases o with
 | none=>simp [slc1]at h; obtain ⟨rfl,rfl⟩:=h; exact ⟨none,rfl,rfl,by simpa using hrel⟩
 | some x=>
  simp only [slc1,Option.isSome,if_true]at h;split at h
  ·rename_i k n r
   injection h with h; injection h with h1 h2; subst h1 h2
   obtain ⟨v,us,e,h1,h2⟩:=hrel.inv_cons;simp at e;obtain ⟨rfl,rfl⟩:=e;refine ⟨some (k,n),?_,rfl,h2⟩
   have:=int_inv h1;simp [bnd,this]
  ·cases h
theorem slcArgs_inv{lo hi mx:Option Operand}{ρ:Operand→Value}{bs:List AV}{l r m:Option Int}(hrel:RelL C bs ((lo.toList++hi.toList++mx.toList).map ρ))(h:slcArgs lo.isSome hi.isSome mx.isSome bs=some (l,r,m)) :
  ∃ l' r' m':Option (IntKind×Int),lo.map ρ=bnd l'∧hi.map ρ=bnd r'∧mx.map ρ=bnd m'∧l=bndI l'∧r=bndI r'∧m=bndI m':=by
 simp only [List.map_append,List.append_assoc]at hrel
 unfold slcArgs at h
 split at h
 ·rename_i l0 b1 h1
  obtain ⟨l',a1,a2,hrel1⟩:=slc1_inv hrel h1;split at h
  ·rename_i r0 b2 h2
   obtain ⟨r',a3,a4,hrel2⟩:=slc1_inv hrel1 h2;split at h
   ·rename_i m0 h3
    injection h with h; injection h with e1 h; injection h with e2 e3; subst e1 e2 e3
    obtain ⟨m',a5,a6,_⟩:=slc1_inv (rest:=[]) (by simpa using hrel2) h3;exact ⟨l',r',m',a1,a3,a5,a2,a4,a6⟩
   ·cases h
  ·cases h
 ·cases h
theorem slcRows_none{n:Nat}{rows:List (List AV)}{lo hi:Option Int}{v:AV}(h:slcRows n rows lo hi none=some v) :
  0≤lo.getD 0∧lo.getD 0≤hi.getD rows.length∧hi.getD rows.length≤rows.length∧sizesOk n rows=true∧v=.sl ((rows.take (hi.getD rows.length).toNat).drop (lo.getD 0).toNat):=by
 have h:(if 0≤lo.getD 0∧lo.getD 0≤hi.getD rows.length∧hi.getD rows.length≤rows.length∧sizesOk n rows then some (AV.sl ((rows.take (hi.getD rows.length).toNat).drop (lo.getD 0).toNat))else none)=some v:=h
 split at h
 ·rename_i hc; injection h with h; exact ⟨hc.1,hc.2.1,hc.2.2.1,hc.2.2.2,h.symm⟩
 ·cases h
theorem slcRows_some{n:Nat}{rows:List (List AV)}{lo hi:Option Int}{m:Int}{v:AV}(h:slcRows n rows lo hi (some m)=some v) :
  hi=some m∧0≤lo.getD 0∧lo.getD 0≤m∧m≤rows.length∧sizesOk n rows=true∧v=.tsl ((rows.take m.toNat).drop (lo.getD 0).toNat):=by
 have h:(if hi=some m∧0≤lo.getD 0∧lo.getD 0≤m∧m≤rows.length∧sizesOk n rows then some (AV.tsl ((rows.take m.toNat).drop (lo.getD 0).toNat))else none)=some v:=h
 split at h
 ·rename_i hc; injection h with h; exact ⟨hc.1,hc.2.1,hc.2.2.1,hc.2.2.2.1,hc.2.2.2.2,h.symm⟩
 ·cases h
theorem slcStr_inv{s:List UInt8}{lo hi:Option Int}{v:AV}(h:slcStr s lo hi=some v) :
  0≤lo.getD 0∧lo.getD 0≤hi.getD s.length∧hi.getD s.length≤s.length∧v=.str ((s.take (hi.getD s.length).toNat).drop (lo.getD 0).toNat):=by
 unfold slcStr at h
 split at h
 ·rename_i hc; injection h with h; exact ⟨hc.1,hc.2.1,hc.2.2,h.symm⟩
 ·cases h
theorem rows_sound{t e:TypeId}{n:Nat}(ht:P.underlying t=some (.slice e))(hs:tsize P e=some n){x:Value}{rows:List (List AV)}(hrel:Rel C (.sl rows) x){v:AV}(lo hi mx:Option (IntKind×Int))
  (hv:slcRows n rows (bndI lo) (bndI hi) (bndI mx)=some v):∃ u,Rel C v u∧∀ w,(Instr.sliceAt t x (bnd lo) (bnd hi) (bnd mx)).run P w=.ok u w:=by
 cases mx with
 | none=>
  obtain ⟨c1,c2,c3,c4,rfl⟩:=slcRows_none hv;have hshape:∃ a cap,x=.slice a rows.length cap∧rows.length≤cap:=by
   cases hrel with
   | slnil=>exact ⟨none,0,rfl,by simp⟩
   | slz a cap=>exact ⟨some a,cap,rfl,by simp⟩
   | sl _ b o cap size us hcap _ _ _=>exact ⟨_,cap,rfl,hcap⟩
  obtain ⟨a,cap,hxe,hcap⟩:=hshape;have hb:=run_bounds (P:=P) true rows.length cap lo hi hcap c1 c2 c3;refine ⟨_,rel_sl_part hxe hrel ((bndI lo).getD 0).toNat ((bndI hi).getD rows.length).toNat (by omega) (by omega) n (sizesOk_all c4) cap rfl,fun w=>?_⟩
  subst hxe;have hb':=hb w;simp only [Instr.sliceAt,Sem.run_bind,run_underlying ht,Result.andThen_ok,Instr.slice];rw [show bnd (none:Option (IntKind×Int))=none from rfl,hb'];simp only [Result.andThen_ok,run_sizeOf' hs,Sem.run_pure]
 | some q=>
  obtain ⟨k2,m⟩:=q;obtain ⟨c0,c1,c2,c3,c4,rfl⟩:=slcRows_some (m:=m) hv;cases hi with
  | none=>cases c0
  | some p=>
   obtain ⟨k1,m'⟩:=p;have:m'=m:=by simpa [bndI] using c0
   subst this;cases hrel with
   | slnil=>
    have e0:m'=0:=by simp at c3; omega
    have e1:((bndI lo).getD 0)=0:=by omega
    have hb:=run_bounds_max (P:=P) true 0 0 lo k1 k2 m' c1 c2 (by simp [e0]);subst e0;refine ⟨.slice none 0 0,by simpa using .tslnil,fun w=>?_⟩
    have hb':=hb w;simp only [Instr.sliceAt,Sem.run_bind,run_underlying ht,Result.andThen_ok,Instr.slice];rw [show bnd (some (k1,(0:Int)))=some (.int k1 0)from rfl,show bnd (some (k2,(0:Int)))=some (.int k2 0)from rfl,hb'];simp [run_sizeOf' hs,e1]
   | slz a0 cap0=>
    have e0:m'=0:=by simp at c3; omega
    have e1:((bndI lo).getD 0)=0:=by omega
    have hb:=run_bounds_max (P:=P) true 0 cap0 lo k1 k2 m' c1 c2 (by simp [e0]);subst e0;refine ⟨.slice (some a0) 0 0,by simpa using .tslz a0,fun w=>?_⟩
    have hb':=hb w;simp only [Instr.sliceAt,Sem.run_bind,run_underlying ht,Result.andThen_ok,Instr.slice];rw [show bnd (some (k1,(0:Int)))=some (.int k1 0)from rfl,show bnd (some (k2,(0:Int)))=some (.int k2 0)from rfl,hb'];simp [run_sizeOf' hs,e1]
   | sl _ b o cap size' us hcap h1 h2 h3=>
    have hb:=run_bounds_max (P:=P) true rows.length cap lo k1 k2 m' c1 c2 (by omega);have hr0:Rel C (.sl rows) (.slice (some ⟨b,o,none⟩) rows.length cap):=.sl rows b o cap size' us hcap h1 h2 h3;refine ⟨_,rel_sl_tight hr0 ((bndI lo).getD 0).toNat m'.toNat (by omega) (by omega) n (sizesOk_all c4),fun w=>?_⟩
    have hb':=hb w;simp only [Instr.sliceAt,Sem.run_bind,run_underlying ht,Result.andThen_ok,Instr.slice];rw [show bnd (some (k1,m'))=some (.int k1 m')from rfl,show bnd (some (k2,m'))=some (.int k2 m')from rfl,hb'];simp only [Result.andThen_ok,run_sizeOf' hs,Sem.run_pure]
theorem slice_sound{t:TypeId}{size:Option Nat}(ht:match size with | none=>P.underlying t=some .string | some n=>∃ e,P.underlying t=some (.slice e)∧tsize P e=some n)
  {a v:AV} {x:Value} (hx:Rel C a x) (lo hi mx:Option (IntKind×Int)) (hev:slcAV size a (bndI lo) (bndI hi) (bndI mx)=some v) :
  ∃ u,Rel C v u∧∀ w,(Instr.sliceAt t x (bnd lo) (bnd hi) (bnd mx)).run P w=.ok u w:=by
 unfold slcAV at hev
 split at hev
 ·rename_i s
  have:=str_inv hx; subst this;cases mx with
  | some q=>cases hev
  | none=>
   obtain ⟨c1,c2,c3,rfl⟩:=slcStr_inv hev;have hb:=run_bounds (P:=P) false s.length s.length lo hi (Nat.le_refl _) c1 c2 c3;refine ⟨_,.str _,fun w=>?_⟩
   have hb':=hb w;simp only [Instr.sliceAt,Sem.run_bind,run_underlying ht,Result.andThen_ok,Instr.slice];rw [show bnd (none:Option (IntKind×Int))=none from rfl,size_ba];simp only [Option.isSome,Bool.false_eq_true,if_false,Sem.run_bind,hb',Result.andThen_ok,Sem.run_pure,extract_ba]
 ·rename_i n rows
  obtain ⟨e,ht,hs⟩:=ht;exact rows_sound ht hs hx lo hi mx hev
 ·rename_i n rows
  obtain ⟨e,ht,hs⟩:=ht;cases mx with
  | some q=>cases hev
  | none=>exact rows_sound ht hs (rel_tsl_sl hx) lo hi none hev
 ·rename_i n
  obtain ⟨e,ht,hs⟩:=ht;cases mx with
  | some q=>cases hev
  | none=>
   split at hev
   ·rename_i hc
    injection hev with hev; subst hev
    obtain ⟨_,c1,c2⟩:=hc;cases hx
    have hb:=run_bounds (P:=P) true 0 0 lo hi (Nat.le_refl _) (by omega) (by rw [c1]; show 0≤(bndI hi).getD 0; omega) (by show (bndI hi).getD 0≤0; omega);refine ⟨_,.nils,fun w=>?_⟩
    have hb':=hb w;simp only [Instr.sliceAt,Sem.run_bind,run_underlying ht,Result.andThen_ok,Instr.slice];rw [show bnd (none:Option (IntKind×Int))=none from rfl,hb'];simp only [Result.andThen_ok,run_sizeOf' hs,Sem.run_pure,c1];have c2':(bndI hi).getD (↑(0:Nat))=0:=c2;rw [c2']; simp
   ·cases hev
 ·cases hev
theorem win_sound{t e:TypeId}{sz l ver n:Nat}{r:RowAt}(ht:P.underlying t=some (.slice e))(hs:tsize P e=some sz)(hr:C.ar l ver=some (some r))(hcap:n≤r.cap)(hsz:r.size=sz)(lo hi:Option (IntKind×Int))
  (c1:0≤(bndI lo).getD 0) (c2:(bndI lo).getD 0<(bndI hi).getD n) (c3:(bndI hi).getD n≤n) :
  ∃ u,Rel C (.win l ver ((bndI lo).getD 0).toNat ((bndI hi).getD n-(bndI lo).getD 0).toNat) u∧∀ w,(Instr.sliceAt t (.slice (some ⟨r.block,0,none⟩) n r.cap) (bnd lo) (bnd hi) (bnd none)).run P w=.ok u w:=by
 have hb:=run_bounds (P:=P) true n r.cap lo hi hcap c1 (by omega) c3
 refine ⟨_,.win l ver _ _ r hr (by omega),fun w=>?_⟩
 have hb':=hb w
 simp only [Instr.sliceAt,Sem.run_bind,run_underlying ht,Result.andThen_ok,Instr.slice]
 rw [show bnd (none:Option (IntKind×Int))=none from rfl,hb']
 simp only [Result.andThen_ok,run_sizeOf' hs,Sem.run_pure]
 subst hsz
 have e1:¬ r.cap=((bndI lo).getD 0).toNat:=by omega
 have e2:((bndI hi).getD (n:Int)).toNat-((bndI lo).getD 0).toNat=((bndI hi).getD (n:Int)-(bndI lo).getD 0).toNat:=by omega
 rw [if_neg e1,e2]
 simp [Addr.add_lit]
end
end Go.Proofs.YtpefhfiehfkocaaGreatDoor
namespace Go.Proofs.YtpefhfiehfkocaaGreatDoor
open Go.RowKit
section
variable {P:Program} {B:Base} {C:Cx} {h:Heap} {w:World}
theorem setAt_fill:∀ (cs:List AV) (vs:List Value) (base:List AV) (cells:Array Value) (off k:Nat),RelL C base cells.toList→RelL C cs vs→
  RelL C (setAt base (off+k) cs) ((vs.zipIdx k).foldl (fun a (x:Value×Nat)=>a.setIfInBounds (off+x.2) x.1) cells).toList
 | [],vs,base,cells,off,k,hb,hc=>by
  have:=hc.inv_nil; subst this;simpa [setAt] using hb
 | c::cs,vs,base,cells,off,k,hb,hc=>by
  obtain ⟨v,vs',rfl,h1,h2⟩:=hc.inv_cons;simp only [setAt,List.zipIdx_cons,List.foldl_cons];exact setAt_fill cs vs' _ _ off (k+1) (by rw [Array.toList_setIfInBounds]; exact hb.set (off+k) h1) h2
theorem bld_fill(pl:Nat→Option (Nat×Nat)):∀ (parts:List (Nat×Operand)) (ρ:Operand→Value) (qs:List (Nat×Nat)) (base:List AV) (cells:Array Value) (vs as:List AV),
  placesOf pl parts=some qs→RelL C base cells.toList→RelL C vs (parts.map fun p=>ρ p.2)→bldAV base qs vs=some as→
  ∃ cells',Instr.fill pl cells (parts.map fun p=>(p.1,ρ p.2))=some cells'∧RelL C as cells'.toList
 | [],ρ,qs,base,cells,vs,as,hp,hb,hv,he=>by
  simp [placesOf]at hp; subst hp;cases vs with
  | nil=>simp [bldAV]at he; subst he; exact ⟨cells,rfl,hb⟩
  | cons _ _=>simp [bldAV]at he
 | (i,x)::r,ρ,qs,base,cells,vs,as,hp,hb,hv,he=>by
  simp only [placesOf]at hp;split at hp
  ·rename_i q qs' h1 h2
   injection hp with hp; subst hp
   obtain ⟨off,size⟩:=q;cases vs with
   | nil=>simp [bldAV]at he
   | cons v vs=>
    simp only [bldAV]at he;split at he
    ·rename_i hc
     obtain ⟨c1,c2,c3⟩:=hc;obtain ⟨u,us,e,r1,r2⟩:=hv.inv_cons;simp at e;obtain ⟨rfl,rfl⟩:=e;have hcells:=cells_rel r1 (by intro e; rw [e]at c1; simp at c1; omega);have hl1:=hcells.1;have hl2:=hb.1;simp at hl1 hl2;have hfold:=setAt_fill _ _ _ _ off 0 hb hcells;obtain ⟨cells',f1,f2⟩:=bld_fill pl r ρ qs' _ _ vs as h2 hfold r2 he;refine ⟨cells',?_,f2⟩
     simp only [List.map_cons,Instr.fill,h1];rw [if_neg (by simp; omega)];rw [← f1];congr 1
     rw [← Array.foldl_toList,Array.toList_zipIdx]
    ·cases he
  ·cases hp
theorem tzero_rel{t:TypeId}{z:List AV}(hz:tzero P t=some z):∃ i zv,P.info? t=some i∧i.zero=some zv∧RelL C z zv.cells.toList:=by
 unfold tzero at hz
 cases hi:P.info? t with
 | none=>simp [hi]at hz
 | some i=>
  cases hzz:i.zero with
  | none=>simp [hi,hzz]at hz
  | some zv=>
   simp [hi,hzz]at hz;exact ⟨i,zv,rfl,hzz,ofCells_rel hz⟩
theorem build_sound{t:TypeId}{z:List AV}(hz:tzero P t=some z){pl:Nat→Option (Nat×Nat)}(hpl:placeFn P t=some pl){parts:Array (Nat×Operand)}{qs:List (Nat×Nat)}(hq:placesOf pl parts.toList=some qs)
  {ρ:Operand→Value} {vs as:List AV} (hv:RelL C vs (parts.toList.map fun p=>ρ p.2)) (he:bldAV z qs vs=some as) :
  ∃ cells,RelL C as cells.toList∧∀ w,(Instr.build t (parts.map fun (i,x)=>(i,ρ x))).run P w=.ok (.agg cells) w:=by
 obtain ⟨i,zv,hi,hzz,hrel⟩:=tzero_rel (C:=C) hz
 obtain ⟨cells,h1,h2⟩:=bld_fill pl parts.toList ρ qs z zv.cells vs as hq hrel hv he
 refine ⟨cells,h2,fun w=>run_build w t _ cells ?_⟩
 have hl:(parts.map fun (x:Nat×Operand)=>(x.1,ρ x.2)).toList=parts.toList.map fun p=>(p.1,ρ p.2):=by simp
 show P.built t (parts.map fun (x:Nat×Operand)=>(x.1,ρ x.2)).toList=some cells
 rw [hl]
 unfold placeFn at hpl
 cases hu:P.underlying t with
 | none=>simp [hu]at hpl
 | some d=>
  cases d <;> simp only [hu]at hpl <;> (first | cases hpl | skip)
  case some.struct fs=>
   cases hm:fs.toList.mapM (fun f=>(P.info? f.type).map fun i=>(f.offset,i.size))with
   | none=>simp [hm]at hpl
   | some places=>
    simp only [hm,Option.map_some,Option.some.injEq]at hpl; subst hpl;simp only [Program.built,hi,hu,hzz,hm];exact h1
  case some.array n e=>
   cases he':P.info? e with
   | none=>simp [he']at hpl
   | some ie=>
    simp only [he',Option.map_some,Option.some.injEq]at hpl; subst hpl;simp only [Program.built,hi,hu,hzz,he'];exact h1
theorem flatEq_struct{t:TypeId}{fs:Array Field}(hu:P.underlying t=some (.struct fs))(d:Nat):flatEq P (d+1) t=if P.stoodInHeld t then none else flatFields P (flatEq P d) fs.toList 0:=by
 simp only [flatEq,hu]
theorem eqTop{t:TypeId}{fs:Array Field}{ks:List EK}(hu:P.underlying t=some (.struct fs))(hk:flatEq P 100 t=some ks){us vs:Array Value}{as bs:List AV}{b:Bool}
  (h1:RelL C as us.toList) (h2:RelL C bs vs.toList) (l1:as.length=ks.length) (l2:bs.length=ks.length) (he:eqCells ks as bs=some b) (w:World) :
  (Op.equalIn 10000 t (.agg us) (.agg vs)).run P w=.ok b w:=by
 have hk':(if P.stoodInHeld t then none else flatFields P (flatEq P 99) fs.toList 0)=some ks:=by
  have:flatEq P (99+1) t=some ks:=hk;rw [flatEq_struct hu]at this; exact this
 split at hk'
 ·cases hk'
 ·rename_i hst
  have hfo:P.fieldsOf t=fs:=by simp [Program.fieldsOf,hu]
  have hu':P.underlying t=some (.struct (P.fieldsOf t)):=by rw [hfo]; exact hu
  have e:=run_equalIn_struct (P:=P) w 9999 t us vs hu' (by simpa using hst);rw [hfo]at e;rw [show (10000:Nat)=9999+1 from rfl,e];have:=eqFields_of (eqAt 99) fs.toList 0 ks us vs as bs b hk' (by rw [List.drop_zero,← l1,h1.1,List.take_length]; exact h1) (by rw [List.drop_zero,← l2,h2.1,List.take_length]; exact h2) l1 l2 he 9900 w;exact this
theorem vals3{vals:List AV}{x y z:Value}(h:RelL C vals [x,y,z]):∃ a b c,vals=[a,b,c]∧Rel C a x∧Rel C b y∧Rel C c z:=by
 obtain ⟨hl,hr⟩:=h
 match vals,hl with
 | [a,b,c],_=>exact ⟨a,b,c,rfl,hr 0 _ _ rfl rfl,hr 1 _ _ rfl rfl,hr 2 _ _ rfl rfl⟩
def CompOK(P:Program)(C:Cx)(h:Heap)(w:World)(o:Op)(ao:AO)(xs:List Operand):Prop:=
 ∀ (vals:List AV) (v:AV) (ρ:Operand→Value) (oper:Oper),oper.op=o→RelL C vals (xs.map ρ)→evalPure h ao vals=some v→∃ u,Rel C v u∧∀ w',Below w.heap.size w w'→(execOp ρ oper).run P w'=.ok (.value u) w'
theorem maxAV_inv{a b v:AV}(h:maxAV a b=some v):∃ k x y,a=.int k x∧b=.int k y∧v=.int k (if x<y then y else x):=by
 unfold maxAV at h
 split at h
 ·rename_i k x k' y
  split at h
  ·rename_i e; subst e; injection h with h; exact ⟨k,x,y,rfl,rfl,h.symm⟩
  ·cases h
 ·cases h
theorem minAV_inv{a b v:AV}(h:minAV a b=some v):∃ k x y,a=.int k x∧b=.int k y∧v=.int k (if y<x then y else x):=by
 unfold minAV at h
 split at h
 ·rename_i k x k' y
  split at h
  ·rename_i e; subst e; injection h with h; exact ⟨k,x,y,rfl,rfl,h.symm⟩
  ·cases h
 ·cases h
set_option maxHeartbeats 800000 in
theorem pure_sound(hi:Inv B C h w){o:Op}{ao:AO}{xs:List Operand}(hc:compPure P o=some (ao,xs)):CompOK P C h w o ao xs:=by
 intro vals v ρ oper hop hrel hev
 have ex:execOp ρ oper=execOp ρ { oper with op:=o }:=by rw [← hop]
 rw [ex]
 clear ex hop
 have val1:∀ {x:Operand} {op:Op} (k:∀ a,vals=[a]→Rel C a (ρ x)→∃ u,Rel C v u∧∀ w',Below w.heap.size w w'→(execOp ρ { oper with op:=op }).run P w'=.ok (.value u) w') (hx:RelL C vals [ρ x]),
   ∃ u,Rel C v u∧∀ w',Below w.heap.size w w'→(execOp ρ { oper with op:=op }).run P w'=.ok (.value u) w':=by
  intro x op k hx;cases vals with
  | nil=>simp [RelL]at hx
  | cons a as=>
   obtain ⟨y,us,e,r1,r2⟩:=hx.inv_cons;injection e with e1 e2; subst e1 e2
   cases as with
   | nil=>exact k a rfl r1
   | cons _ _=>simp [RelL]at r2
 have val2:∀ {x y:Operand} {op:Op} (k:∀ a b,vals=[a,b]→Rel C a (ρ x)→Rel C b (ρ y)→∃ u,Rel C v u∧∀ w',Below w.heap.size w w'→(execOp ρ { oper with op:=op }).run P w'=.ok (.value u) w') (hx:RelL C vals [ρ x,ρ y]),
   ∃ u,Rel C v u∧∀ w',Below w.heap.size w w'→(execOp ρ { oper with op:=op }).run P w'=.ok (.value u) w':=by
  intro x y op k hx;cases vals with
  | nil=>simp [RelL]at hx
  | cons a as=>
   obtain ⟨y,us,e,r1,r2⟩:=hx.inv_cons;injection e with e1 e2; subst e1 e2
   cases as with
   | nil=>simp [RelL]at r2
   | cons b bs=>
    obtain ⟨y,us,e,r3,r4⟩:=r2.inv_cons;injection e with e1 e2; subst e1 e2
    cases bs with
    | nil=>exact k a b rfl r1 r3
    | cons _ _=>simp [RelL]at r4
 have lift:∀ {op:Op} {u:Value} {s:World→Prop} (f:Sem Value),(∀ w',(execOp ρ { oper with op:=op }).run P w'=((do pure (.value (← f)):Sem Next)).run P w')→(∀ w',s w'→f.run P w'=.ok u w')→∀ w',s w'→(execOp ρ { oper with op:=op }).run P w'=.ok (.value u) w':=by
  intro op u s f h1 h2 w' hs;rw [h1,Sem.run_bind,h2 w' hs]; rfl
 cases o with
 | move x=>
  simp only [compPure]at hc; cases hc;refine val1 (x:=x) (fun a e r=>?_) hrel
  subst e; simp only [evalPure]at hev; injection hev with hev; subst hev
  exact ⟨_,r,fun w' _=>rfl⟩
 | assign x=>
  simp only [compPure]at hc; cases hc;refine val1 (x:=x) (fun a e r=>?_) hrel
  subst e; simp only [evalPure]at hev; injection hev with hev; subst hev
  exact ⟨_,r,fun w' _=>rfl⟩
 | pick c x y=>
  simp only [compPure]at hc; cases hc;obtain ⟨vc,a,b,rfl,r1,r3,r4⟩:=vals3 hrel;cases vc <;> simp only [evalPure]at hev <;> (first | cases hev | skip)
  rename_i bb;have e1:=bool_inv r1;refine ⟨if bb then ρ x else ρ y,by cases bb <;> assumption,fun w' _=>?_⟩
  simp only [execOp,e1,asBool];cases bb <;> rfl
 | binOp op t x y yt=>
  simp only [compPure]at hc;cases hu:P.underlying t with
  | none=>simp [hu]at hc
  | some d=>
   have plain:ao=.bin op→xs=[x,y]→∃ u,Rel C v u∧∀ w',Below w.heap.size w w'→(execOp ρ { oper with op:=.binOp op t x y yt }).run P w'=.ok (.value u) w':=by
    rintro rfl rfl
    refine val2 (x:=x) (y:=y) (fun a b e r1 r2=>?_) hrel
    subst e;simp only [evalPure]at hev;obtain ⟨u,h1,h2⟩:=binAV_sound r1 r2 hev t x y;exact ⟨u,h1,lift _ (fun w'=>rfl) (fun w' _=>h2 w')⟩
   cases d <;> simp only [hu]at hc <;> (first | cases hc | skip)
   case some.bool=>
    have bb:∀ neg:Bool,(op=if neg then .neq else .eql)→ao=.eqB neg→xs=[x,y]→∃ u,Rel C v u∧∀ w',Below w.heap.size w w'→(execOp ρ { oper with op:=.binOp op t x y yt }).run P w'=.ok (.value u) w':=by
     rintro neg hop rfl rfl
     refine val2 (x:=x) (y:=y) (fun a b e r1 r2=>?_) hrel
     subst e;cases a <;> cases b <;> simp only [evalPure]at hev <;> (first | cases hev | skip)
     rename_i p q;have e1:=bool_inv r1;have e2:=bool_inv r2;refine ⟨_,.bool _,lift _ (fun w'=>rfl) (fun w' _=>?_)⟩
     subst hop;rw [e1,e2];have:=fun w=>run_equalIn_bool' (P:=P) w 9999 t p q hu
     cases neg <;> simp [run_eqGuard_scalar,Value.oneCell',binOp,Op.equal,Op.maxDepth,this]
    cases op <;> simp only at hc <;> (first | cases hc | skip)
    ·exact bb false rfl rfl rfl
    ·exact bb true rfl rfl rfl
   case some.int.refl q=>exact plain rfl rfl
   case some.string.refl=>exact plain rfl rfl
   case some.struct fs=>
    split at hc
    ·rename_i hg
     split at hc
     ·rename_i ks hk
      split at hc
      ·rename_i hs
       have ee:∀ neg:Bool,(op=if neg then .neq else .eql)→ao=.eqA neg ks→xs=[x,y]→∃ u,Rel C v u∧∀ w',Below w.heap.size w w'→(execOp ρ { oper with op:=.binOp op t x y yt }).run P w'=.ok (.value u) w':=by
        rintro neg hop rfl rfl
        refine val2 (x:=x) (y:=y) (fun a b e r1 r2=>?_) hrel
        subst e;cases a <;> cases b <;> simp only [evalPure]at hev <;> (first | cases hev | skip)
        rename_i as bs;split at hev
        ·rename_i hlen
         cases he:eqCells ks as bs with
         | none=>simp [he]at hev
         | some bb=>
          simp only [he,Option.map_some,Option.some.injEq]at hev; subst hev;obtain ⟨us,e1,q1⟩:=agg_inv r1;obtain ⟨vs,e2,q2⟩:=agg_inv r2;refine ⟨_,.bool _,lift _ (fun w'=>rfl) (fun w' _=>?_)⟩
          have ht:=eqTop hu hk q1 q2 hlen.1 hlen.2 he w';subst hop;rw [e1,e2];cases neg
          ·simp [run_eqGuard_agg (P:=P) _ _ _ _ _ _ _ hg,run_eql_struct,ht]
          ·simp [run_eqGuard_agg (P:=P) _ _ _ _ _ _ _ hg,run_neq_struct,ht]
        ·cases hev
       cases op <;> simp only at hc <;> (first | cases hc | skip)
       ·exact ee false rfl rfl rfl
       ·exact ee true rfl rfl rfl
      ·cases hc
     ·cases hc
    ·cases hc
 | unOp op t x=>
  simp only [compPure]at hc; cases hc;refine val1 (x:=x) (fun a e r=>?_) hrel
  subst e; simp only [evalPure]at hev;cases a <;> simp only [unAV]at hev <;> (first | cases hev | skip)
  ·rename_i b
   have e1:=bool_inv r;cases op <;> simp only at hev <;> (first | cases hev | skip)
   exact ⟨_,.bool _,lift _ (fun w'=>rfl) (fun w' _=>by rw [e1]; simp [Op.unary])⟩
  ·rename_i k n
   have e1:=int_inv r;cases op <;> simp only at hev <;> (first | cases hev | skip)
   ·exact ⟨_,.int _ _,lift _ (fun w'=>rfl) (fun w' _=>by rw [e1]; simp [Op.unary,Op.intArith])⟩
   ·exact ⟨_,.int _ _,lift _ (fun w'=>rfl) (fun w' _=>by rw [e1]; simp [Op.unary,Op.intBits])⟩
 | convert sT d x=>
  simp only [compPure]at hc;split at hc
  ·rename_i k' k h1 h2
   cases hc
   refine val1 (x:=x) (fun a e r=>?_) hrel
   subst e;cases a <;> simp only [evalPure]at hev <;> (first | cases hev | skip)
   have e1:=int_inv r;exact ⟨_,.int _ _,lift _ (fun w'=>rfl) (fun w' _=>by rw [e1]; simp [convert,run_underlying h1,run_underlying h2,Conv.intToInt])⟩
  ·rename_i h1 h2
   cases hc
   refine val1 (x:=x) (fun a e r=>?_) hrel
   subst e;cases a <;> simp only [evalPure]at hev <;> (first | cases hev | skip)
   have e1:=str_inv r;exact ⟨_,r,lift _ (fun w'=>rfl) (fun w' _=>by rw [e1]; simp [convert,run_underlying h1,run_underlying h2])⟩
  ·cases hc
 | fieldAddr sT x f=>
  simp only [compPure]at hc;split at hc
  ·rename_i fs hu
   split at hc
   ·rename_i fd hfd
    split at hc
    ·rename_i n hn
     split at hc
     ·cases hc
     ·rename_i hn0
      cases hc
      refine val1 (x:=x) (fun a e r=>?_) hrel
      subst e;have core:∀ b o,ρ x=.pointer (some ⟨b,o,none⟩)→∀ w',(Instr.fieldAt sT (ρ x) f).run P w'=.ok (.pointer (some ⟨b,o+fd.offset,none⟩)) w':=by
       intro b o e w';rw [e];simp [Instr.fieldAt,run_underlying hu,hfd,Instr.sureAddr,fieldPlace,run_sizeOf' hn,hn0,Addr.add_lit]
      cases a <;> simp only [evalPure]at hev <;> (first | cases hev | skip)
      ·rename_i l off
       cases hp:ρ x <;> rw [hp]at r <;> (first | cases r | skip)
       rename_i b hb;exact ⟨_,.ptr l (off+fd.offset) b hb,lift _ (fun w'=>rfl) (fun w' _=>core b off hp w')⟩
      ·rename_i row off
       cases hp:ρ x <;> rw [hp]at r <;> (first | cases r | skip)
       rename_i b o us hc1 hr1;exact ⟨_,.fptr row (off+fd.offset) b o us hc1 hr1,lift _ (fun w'=>rfl) (fun w' _=>by rw [← Nat.add_assoc]; exact core b (o+off) hp w')⟩
      ·rename_i l ver i off
       cases hp:ρ x <;> rw [hp]at r <;> (first | cases r | skip)
       rename_i rr hb;exact ⟨_,.eptr l ver i (off+fd.offset) rr hb,lift _ (fun w'=>rfl) (fun w' _=>by rw [← Nat.add_assoc]; exact core rr.block (i*rr.size+off) hp w')⟩
    ·cases hc
   ·cases hc
  ·cases hc
 | field sT x f=>
  simp only [compPure]at hc;split at hc
  ·rename_i fs hu
   split at hc
   ·rename_i fd hfd
    split at hc
    ·rename_i n g hn hg
     cases hc
     refine val1 (x:=x) (fun a e r=>?_) hrel
     subst e;cases a <;> simp only [evalPure]at hev <;> (first | cases hev | skip)
     rename_i cs;obtain ⟨us,e1,q1⟩:=agg_inv r;have hcut:=cut_rel q1 fd.offset n;refine ⟨_,mkVal_rel hev hcut,lift _ (fun w'=>rfl) (fun w' _=>?_)⟩
     have hlen:=mkVal_len hev;rw [hcut.1]at hlen;rw [e1];cases g with
     | true=>
      simp [Instr.field,run_underlying hu,hfd,asAgg,part,run_isAgg hg,run_sizeOf' hn,mkC];apply Array.ext'
      rw [extract_list]; simp
     | false=>
      simp only [Bool.false_eq_true,if_false]at hlen;cases hl:(us.toList.drop fd.offset).take n with
      | nil=>rw [hl]at hlen; simp at hlen
      | cons u us'=>
       have h0:us[fd.offset]?=some u:=by
        have:=cut_get (us:=us.toList) (off:=fd.offset) (size:=n) (j:=0) (u:=u) (by rw [hl]; rfl);simpa using this
       simp [Instr.field,run_underlying hu,hfd,asAgg,part,run_isAgg hg,h0,mkC]
    ·cases hc
   ·cases hc
  ·cases hc
 | indexAddr t x i=>
  simp only [compPure]at hc;split at hc
  ·rename_i e hu
   split at hc
   ·rename_i n hn
    cases hc
    refine val2 (x:=x) (y:=i) (fun a b e r1 r2=>?_) hrel
    subst e;simp only [evalPure]at hev;obtain ⟨u,h1,h2⟩:=indexAddr_sound hi hu hn r1 r2 hev;exact ⟨u,h1,lift _ (fun w'=>rfl) (fun w' _=>h2 w')⟩
   ·cases hc
  ·rename_i len e hu
   split at hc
   ·rename_i n hn
    cases hc
    refine val2 (x:=x) (y:=i) (fun a b e r1 r2=>?_) hrel
    subst e;have core:∀ bl o k (m:Int),ρ x=.pointer (some ⟨bl,o,none⟩)→ρ i=.int k m→0≤m→m<len→∀ w',(Instr.indexAt t (ρ x) (ρ i)).run P w'=.ok (.pointer (some ⟨bl,o+m.toNat*n,none⟩)) w':=by
     intro bl o k m e1 e2 h0 h1 w';rw [e1,e2];simp [Instr.indexAt,asIntOf,run_underlying hu,Instr.sureAddr,h0,h1,run_sizeOf' hn,Addr.add_lit]
    cases a <;> cases b <;> simp only [evalPure]at hev <;> (first | cases hev | skip)
    ·rename_i l off k m
     split at hev
     ·rename_i hcond
      injection hev with hev; subst hev
      cases hp:ρ x <;> rw [hp]at r1 <;> (first | cases r1 | skip)
      rename_i bl hb;exact ⟨_,.ptr l (off+m.toNat*n) bl hb,lift _ (fun w'=>rfl) (fun w' _=>core bl off k m hp (int_inv r2) hcond.1 hcond.2.1 w')⟩
     ·cases hev
    ·rename_i row off k m
     split at hev
     ·rename_i hcond
      injection hev with hev; subst hev
      cases hp:ρ x <;> rw [hp]at r1 <;> (first | cases r1 | skip)
      rename_i bl o us hc1 hr1;exact ⟨_,.fptr row (off+m.toNat*n) bl o us hc1 hr1,lift _ (fun w'=>rfl) (fun w' _=>by rw [← Nat.add_assoc]; exact core bl (o+off) k m hp (int_inv r2) hcond.1 hcond.2.1 w')⟩
     ·cases hev
   ·cases hc
  ·cases hc
 | index t x i=>
  simp only [compPure]at hc;split at hc
  ·rename_i hu
   cases hc
   refine val2 (x:=x) (y:=i) (fun a b e r1 r2=>?_) hrel
   subst e;cases a <;> cases b <;> simp only [evalPure]at hev <;> (first | cases hev | skip)
   rename_i sb k m;split at hev
   ·rename_i h0
    split at hev
    ·rename_i c hcx
     injection hev with hev; subst hev
     refine ⟨_,.int _ _,lift _ (fun w'=>rfl) (fun w' _=>?_)⟩
     rw [str_inv r1,int_inv r2];have hg:(ByteArray.mk sb.toArray)[m.toNat]?=some c:=by
      have hlt:m.toNat<(ByteArray.mk sb.toArray).size:=by rw [size_ba]; exact (List.getElem?_eq_some_iff.1 hcx).1
      rw [ByteArray.getElem?_lt' _ _ hlt];have:(ByteArray.mk sb.toArray)[m.toNat]=sb[m.toNat]'(by rw [size_ba]at hlt; exact hlt):=by
       show sb.toArray[m.toNat]'(by simpa [size_ba] using hlt)=_
       simp
      rw [this,(List.getElem?_eq_some_iff.1 hcx).2]
     simp [Instr.index,asIntOf,run_underlying hu,h0,hg]
    ·cases hev
   ·cases hev
  ·rename_i len e hu
   split at hc
   ·rename_i n g hn hg
    cases hc
    refine val2 (x:=x) (y:=i) (fun a b e r1 r2=>?_) hrel
    subst e;cases a <;> cases b <;> simp only [evalPure]at hev <;> (first | cases hev | skip)
    rename_i cs k m;split at hev
    ·rename_i hcond
     obtain ⟨us,e1,q1⟩:=agg_inv r1;have hcut:=cut_rel q1 (m.toNat*n) n;refine ⟨_,mkVal_rel hev hcut,lift _ (fun w'=>rfl) (fun w' _=>?_)⟩
     have hlen:=mkVal_len hev;rw [hcut.1]at hlen;rw [e1,int_inv r2];cases g with
     | true=>
      simp [Instr.index,asIntOf,run_underlying hu,hcond,part,run_isAgg hg,run_sizeOf' hn,mkC];apply Array.ext'
      rw [extract_list]; simp
     | false=>
      simp only [Bool.false_eq_true,if_false]at hlen;cases hl:(us.toList.drop (m.toNat*n)).take n with
      | nil=>rw [hl]at hlen; simp at hlen
      | cons u us'=>
       have h0:us[m.toNat*n]?=some u:=by
        have:=cut_get (us:=us.toList) (off:=m.toNat*n) (size:=n) (j:=0) (u:=u) (by rw [hl]; rfl);simpa using this
       simp [Instr.index,asIntOf,run_underlying hu,hcond,part,run_isAgg hg,run_sizeOf' hn,h0,mkC]
    ·cases hev
   ·cases hc
  ·cases hc
 | load t x=>
  simp only [compPure]at hc;split at hc
  ·rename_i n g hn hg
   cases hc
   refine val1 (x:=x) (fun a e r=>?_) hrel
   subst e; simp only [evalPure]at hev;obtain ⟨u,h1,h2⟩:=loadAV_sound hi hg hn r hev;exact ⟨u,h1,lift _ (fun w'=>rfl) h2⟩
  ·cases hc
 | extract x i=>
  simp only [compPure]at hc; cases hc;refine val1 (x:=x) (fun a e r=>?_) hrel
  subst e;cases a <;> simp only [evalPure]at hev <;> (first | cases hev | skip)
  rename_i vs;cases hp:ρ x <;> rw [hp]at r <;> (first | cases r | skip)
  rename_i us hl hh;obtain ⟨u,h1,h2⟩:=(show RelL C vs us.toList from ⟨by simpa using hl,fun i c v hc hv=>hh i c v hc (by simpa using hv)⟩).get hev;exact ⟨u,h2,lift _ (fun w'=>rfl) (fun w' _=>by rw [hp]; simp at h1; simp [Instr.extract,h1])⟩
 | lookup t m k ok=>
  simp only [compPure]at hc;split at hc
  ·rename_i kt et hu
   have fin:∀ (e:EK) (z:AV) (d:TypeDesc),(match e with | .s=>d=.string | .i=>∃ q,d=.int q | .b=>d=.bool)→P.underlying kt=some d→tzeroV P et=some z→ao=.look e ok z→xs=[m,k]→
     ∃ u,Rel C v u∧∀ w',Below w.heap.size w w'→(execOp ρ { oper with op:=.lookup t m k ok }).run P w'=.ok (.value u) w':=by
    rintro e z d hd hk hz rfl rfl
    refine val2 (x:=m) (y:=k) (fun a b e r1 r2=>?_) hrel
    subst e;obtain ⟨u,h1,h2⟩:=look_sound hi hu hd hk hz r1 r2 hev;exact ⟨u,h1,lift _ (fun w'=>rfl) h2⟩
   split at hc
   ·rename_i z hk hz; cases hc; exact fin .s z _ rfl hk hz rfl rfl
   ·rename_i q z hk hz; cases hc; exact fin .i z _ ⟨q,rfl⟩ hk hz rfl rfl
   ·rename_i z hk hz; cases hc; exact fin .b z _ rfl hk hz rfl rfl
   ·cases hc
  ·cases hc
 | makeFunc fn first caps=>
  cases fn <;> simp only [compPure]at hc <;> (first | cases hc | skip)
  rename_i f;split at hc
  ·rename_i hf
   cases hc
   simp only [evalPure,Option.some.injEq]at hev; subst hev;have hf':first.map ρ=#[]:=by apply Array.eq_empty_of_size_eq_zero; simp [hf]
   refine ⟨_,.fn f vals (caps.map ρ) (by simpa using hrel.1) (fun i c u hc hu=>hrel.2 i c u hc (by simpa using hu)),fun w' _=>?_⟩
   simp [execOp,Instr.makeFunc,hf']
  ·split at hc
   ·rename_i hf
    split at hc
    ·rename_i x hx
     cases hc
     have hcap:caps.map ρ=#[]:=by apply Array.eq_empty_of_size_eq_zero; simp [hf]
     have hfst:first=#[x]:=by rw [← Array.toList_inj]; simpa using hx
     refine val1 (x:=x) (fun a e r=>?_) hrel
     subst e;simp only [evalPure,Option.some.injEq]at hev; subst hev;refine ⟨_,.mth f a (ρ x) r,fun w' _=>?_⟩
     simp [execOp,Instr.makeFunc,hcap,hfst]
    ·cases hc
   ·cases hc
 | makeInterface t x=>
  simp only [compPure]at hc;split at hc
  ·cases hc
  ·rename_i d hni hu
   cases hc
   refine val1 (x:=x) (fun a e r=>?_) hrel
   subst e;simp only [evalPure,Option.some.injEq]at hev; subst hev;refine ⟨_,.iface t a _ r,lift _ (fun w'=>rfl) (fun w' _=>?_)⟩
   simp only [Instr.makeInterface,Sem.run_bind,run_underlying hu,Result.andThen_ok];cases d <;> first | rfl | exact absurd rfl (hni _)
  ·cases hc
 | slice t x lo hi' mx=>
  simp only [compPure]at hc;have fin:∀ size,(match size with | none=>P.underlying t=some .string | some n=>∃ e,P.underlying t=some (.slice e)∧tsize P e=some n)→ao=.slc size lo.isSome hi'.isSome mx.isSome→xs=x::(lo.toList++hi'.toList++mx.toList)→
    ∃ u,Rel C v u∧∀ w',Below w.heap.size w w'→(execOp ρ { oper with op:=.slice t x lo hi' mx }).run P w'=.ok (.value u) w':=by
   rintro size hsz rfl rfl
   cases vals with
   | nil=>simp [RelL]at hrel
   | cons a as=>
    obtain ⟨y,us,e,r1,r2⟩:=hrel.inv_cons;injection e with e1 e2; subst e1 e2
    simp only [evalPure]at hev;split at hev
    ·rename_i l r m hargs
     obtain ⟨l',r',m',a1,a2,a3,rfl,rfl,rfl⟩:=slcArgs_inv r2 hargs;have fin2:∀ u,Rel C v u→(∀ w',(Instr.sliceAt t (ρ x) (bnd l') (bnd r') (bnd m')).run P w'=.ok u w')→∃ u,Rel C v u∧∀ w',Below w.heap.size w w'→(execOp ρ { oper with op:=.slice t x lo hi' mx }).run P w'=.ok (.value u) w':=
      fun u h1 h2=>⟨u,h1,lift _ (fun w'=>rfl) (fun w' _=>by rw [a1,a2,a3]; exact h2 w')⟩
     unfold slcH at hev;split at hev
     ·rename_i sz ll ver n
      split at hev
      ·rename_i sz' ver' rows wr hblk
       split at hev
       ·rename_i hc
        obtain ⟨rfl,rfl,q1,q2,q3,q4,q5⟩:=hc;injection hev with hev; subst hev
        obtain ⟨e,ht,hs⟩:=hsz;cases m' with
        | some q=>cases q1
        | none=>
         rcases hi.ok ll _ hblk with ⟨_,k2⟩ | ⟨r,cur,k1,k2,k3,k4,k5,k6,k7,k8,k9,k10,k11,k12,_⟩
         ·subst k2; simp at q5; subst q5; omega
         ·generalize ρ x=yy at r1 fin2
          cases r1 with
          | ownnil _ _ h1=>rw [h1]at k1; cases k1
          | own _ _ _ r2 h1 hcap=>
           rw [h1]at k1; injection k1 with k1; injection k1 with k1; subst k1
           obtain ⟨u,h1,h2⟩:=win_sound ht hs h1 hcap k12 l' r' q2 q3 q4;exact fin2 u h1 h2
       ·cases hev
      ·cases hev
     ·obtain ⟨u,h1,h2⟩:=slice_sound hsz r1 l' r' m' hev
      exact fin2 u h1 h2
    ·cases hev
  split at hc
  ·rename_i hu; cases hc; exact fin none hu rfl rfl
  ·rename_i e hu
   split at hc
   ·rename_i n hn; cases hc; exact fin (some n) ⟨e,hu,hn⟩ rfl rfl
   ·cases hc
  ·cases hc
 | build t parts=>
  simp only [compPure]at hc;split at hc
  ·rename_i z pl hz hpl
   split at hc
   ·rename_i qs hq
    cases hc
    simp only [evalPure]at hev;cases hb:bldAV z qs vals with
    | none=>simp [hb]at hev
    | some as=>
     simp only [hb,Option.map_some,Option.some.injEq]at hev; subst hev;obtain ⟨cells,h1,h2⟩:=build_sound hz hpl hq (ρ:=ρ) (by simpa [List.map_map,Function.comp_def] using hrel) hb;exact ⟨_,.agg as cells (by simpa using h1.1) (fun i c u hc hu=>h1.2 i c u hc (by simpa using hu)),lift _ (fun w'=>rfl) (fun w' _=>h2 w')⟩
   ·cases hc
  ·cases hc
 | nilCheck x=>
  simp only [compPure]at hc; cases hc;refine val1 (x:=x) (fun a e r=>?_) hrel
  subst e;cases a <;> simp only [evalPure]at hev <;> (first | cases hev | skip)
  ·cases hp:ρ x <;> rw [hp]at r <;> (first | cases r | skip)
   rename_i l off b hb;exact ⟨_,.ptr l off b hb,fun w' _=>by simp [execOp,hp]⟩
  ·cases hp:ρ x <;> rw [hp]at r <;> (first | cases r | skip)
   rename_i row off b o us hc1 hr1;exact ⟨_,.fptr row off b o us hc1 hr1,fun w' _=>by simp [execOp,hp]⟩
  ·cases hp:ρ x <;> rw [hp]at r <;> (first | cases r | skip)
   rename_i l ver i off rr hb;exact ⟨_,.eptr l ver i off rr hb,fun w' _=>by simp [execOp,hp]⟩
  ·cases hp:ρ x <;> rw [hp]at r <;> (first | cases r | skip)
   rename_i f caps vs hl hh;exact ⟨_,.fn f caps vs hl hh,fun w' _=>by simp [execOp,hp]⟩
 | call c=>
  obtain ⟨callee,args,argTypes⟩:=c;cases callee with
  | builtin b=>
   cases b <;> simp only [compPure]at hc <;> (first | cases hc | skip)
   ·split at hc
    ·rename_i t x ht hx
     have et:argTypes=#[t]:=by apply Array.ext'; simpa using ht
     have ex:args=#[x]:=by apply Array.ext'; simpa using hx
     subst et ex;have fin:∀ k,LenTy P t k→ao=.len k→xs=[x]→
       ∃ u,Rel C v u∧∀ w',Below w.heap.size w w'→(execOp ρ { oper with op:=.call ⟨.builtin .len,#[x],#[t]⟩ }).run P w'=.ok (.value u) w':=by
      rintro k hk rfl rfl
      refine val1 (x:=x) (fun a e r=>?_) hrel
      subst e; simp only [evalPure]at hev;obtain ⟨u,h1,h2⟩:=len_sound (ty:=oper.type) hi r hev hk;exact ⟨u,h1,fun w' hw'=>by simp [execOp,resolve,invoke,builtin,h2 w' hw']⟩
     split at hc
     ·rename_i hu; cases hc; exact fin 0 hu rfl rfl
     ·rename_i e hu; cases hc; exact fin 1 ⟨_,hu⟩ rfl rfl
     ·rename_i q e hu; cases hc; exact fin 2 ⟨_,_,hu⟩ rfl rfl
     ·cases hc
    ·cases hc
   ·split at hc
    ·rename_i x y hx
     have ex:args=#[x,y]:=by apply Array.ext'; simpa using hx
     subst ex;cases hc
     refine val2 (x:=x) (y:=y) (fun a b e r1 r2=>?_) hrel
     subst e; simp only [evalPure]at hev;obtain ⟨k,m,n,rfl,rfl,rfl⟩:=maxAV_inv hev;have e1:=int_inv r1;have e2:=int_inv r2;exact ⟨_,.int _ _,fun w' _=>by simp [execOp,resolve,invoke,builtin,e1,e2,Builtin.max_,Builtin.max2]⟩
    ·cases hc
   ·split at hc
    ·rename_i x y hx
     have ex:args=#[x,y]:=by apply Array.ext'; simpa using hx
     subst ex;cases hc
     refine val2 (x:=x) (y:=y) (fun a b e r1 r2=>?_) hrel
     subst e; simp only [evalPure]at hev;obtain ⟨k,m,n,rfl,rfl,rfl⟩:=minAV_inv hev;have e1:=int_inv r1;have e2:=int_inv r2;exact ⟨_,.int _ _,fun w' _=>by simp [execOp,resolve,invoke,builtin,e1,e2,Builtin.min_,Builtin.min2]⟩
    ·cases hc
  | value f=>simp [compPure]at hc
  | invoke r m=>simp [compPure]at hc
 | _=>simp [compPure]at hc
end
end Go.Proofs.YtpefhfiehfkocaaGreatDoor
