/- Abstract values,and how they stand to -/
import Derived.WalkKit
import Derived.Deep.Quiet
namespace Go.Proofs.YtpefhfiehfkocaaGreatDoor
open Go.RowKit
abbrev aF:=@List.getElem?_eq_some_iff
abbrev bS:=@Option.map_eq_some_iff
abbrev aR:=@Prod.mk.injEq
abbrev aX:=@List.getElem?_append_left
abbrev zN:=@Option.bind_eq_some_iff
abbrev iB:=@Bool.false_and
abbrev bM:=@Bool.false_eq_true
abbrev bH:=@if_false
abbrev aM:=@if_true
abbrev fE:=@List.map_cons
abbrev zE:=@List.drop_eq_getElem_cons
abbrev lY:=@Nat.lt_or_ge
abbrev dI:=@Option.map_some
abbrev aE:=@Option.some.injEq
abbrev gL:=@Nat.add_mul
abbrev oF:=@List.flatten_cons
abbrev pM:=@List.getElem?_map
abbrev IP:=@List.getElem?_range
abbrev dY:=@List.getElem?_append_right
abbrev gJ:=@List.mem_of_getElem?
abbrev lM:=@List.mem_iff_getElem?
abbrev kH:=@Nat.mul_le_mul_right
abbrev IM:=@List.flatten_append
abbrev sO:=@List.take_append_drop
abbrev sN:=@List.mem_of_mem_take
abbrev uN:=@List.take_append
abbrev lN:=@List.take_of_length_le
abbrev zK:=@List.take_take
abbrev wN:=@Nat.min_eq_left
abbrev eT:=@Nat.zero_add
abbrev fS:=@List.getElem?_take
abbrev uL:=@List.eq_nil_of_length_eq_zero
abbrev iS:=@List.length_append
abbrev bP:=@Nat.le_refl
abbrev iK:=@List.mem_append
abbrev zH:=@List.length_pos_iff
abbrev jU:=@List.nil_append
abbrev kN:=@List.length_nil
abbrev iZ:=@List.getElem?_set
abbrev uJ:=@Array.getElem?_toList
abbrev wH:=@Array.getElem?_modify
abbrev sK:=@Array.getElem?_push
abbrev DF:=@Nat.eq_zero_or_pos
abbrev lX:=@List.getElem?_eq_none
abbrev sL:=@List.all_cons
abbrev kL:=@List.ext_getElem?
abbrev kO:=@getElem!_pos
abbrev bR:=@Bool.and_eq_true
abbrev fD:=@decide_eq_true_eq
abbrev jA:=@List.length_cons
abbrev IK:=@List.drop_append
abbrev OL:=@List.drop_of_length_le
abbrev dD:=@List.mem_cons
abbrev lL:=@Array.getElem?_eq_some_iff
abbrev kG:=@List.length_map
abbrev gH:=@Bool.true_and
abbrev mM:=@Bool.not_eq_true'
abbrev sM:=@List.length_take
abbrev zJ:=@List.take_length
abbrev lA:=@Bool.not_false
abbrev fK:=@List.all_eq_true
abbrev qV:=@Int.toNat_natCast
abbrev IJ:=@Int.tdiv_eq_ediv_of_nonneg
abbrev zF:=@List.getD_eq_getElem?_getD
abbrev gI:=@List.getElem?_eq_getElem
abbrev wO:=@Option.bind_some
abbrev wL:=@List.getElem?_cons_zero
abbrev oG:=@List.getElem?_cons_succ
abbrev lC:=@List.mem_cons_of_mem
abbrev uK:=@Bool.not_true
abbrev zD:=@Bool.or_eq_true
abbrev IV:=@decide_eq_false_iff_not
abbrev fQ:=@Bool.eq_false_or_eq_true
abbrev wJ:=@Bool.eq_false_iff
abbrev gT:=@List.length_set
abbrev oH:=@List.getElem?_drop
abbrev DG:=@UInt8.toNat_inj
abbrev II:=@Array.getElem?_append_left
abbrev uM:=@List.getElem?_eq_none_iff
abbrev jE:=@List.mem_map
abbrev kK:=@Array.ext'
abbrev IH:=@Array.eq_empty_of_size_eq_zero
abbrev lD:=@Nat.zero_le
abbrev gU:=@List.mem_singleton
abbrev wK:=@List.drop_zero
abbrev oJ:=@Nat.le_trans
abbrev iC:=@List.pairwise_cons
abbrev IL:=@List.filter_cons
abbrev jF:=@List.mem_range
abbrev IU:=@List.pairwise_append
abbrev jT:=@List.append_assoc
abbrev pN:=@List.map_nil
abbrev DD:=@Bool.or_eq_false_iff
abbrev qW:=@List.cons_append
abbrev gK:=@List.set_append_right
abbrev fL:=@List.getElem?_set_self
abbrev eY:=@List.getElem?_set_ne
abbrev iR:=@List.append_nil
abbrev sQ:=@Nat.mul_one
abbrev oI:=@List.set_append_left
abbrev mN:=@List.set_set
abbrev IS:=@List.map_eq_nil_iff
abbrev IR:=@List.length_singleton
abbrev VR:=@Array.getElem?_setIfInBounds_ne
abbrev wM:=@List.nodup_cons
abbrev nG:=@List.mem_filter
abbrev sP:=@Nat.lt_of_lt_of_le
abbrev wI:=@Bool.and_self
abbrev DE:=@List.mem_of_mem_drop
abbrev IT:=@List.mem_filterMap
abbrev zG:=@List.length_filter_le
abbrev zI:=@List.mem_append_left
abbrev IQ:=@List.getElem_mem
abbrev oE:=@Array.toList_inj
abbrev pJ:=@List.contains_cons
inductive AV where|bool(b:Bool)|int(k:IntKind)(n:Int)|str(s:List UInt8)|agg(cs:List AV)|tup(vs:List AV)|sl(rows:List (List AV))|tsl(rows:List (List AV))|nils|own(l ver n:Nat)|win(l ver lo n:Nat)|ptr(l off:Nat)|fptr(row:List AV)(off:Nat)|eptr(l ver i off:Nat)|gptr(g off:Nat)|nilp|map(l:Nat)|nilm|fn(f:FuncId)(caps:List AV)|mth(f:FuncId)(v:AV)|nilf|iface(t:TypeId)(v:AV)|nili|yld(l:Nat)|junk deriving Inhabited
structure RowAt where
 block:Nat
 cap:Nat
 size:Nat
 elem:TypeId
 cv:Bool
def RowAt.fz(r:RowAt):Nat×Nat:=if r.cv then(r.cap*r.size,r.cap*r.size+1)else(0,0)
structure Cx where
 im:Nat->Nat->Option Value
 bl:Nat->Option Nat
 ar:Nat->Nat->Option (Option RowAt)
def Cx.pure(a:Nat->Nat->Option Value):Cx:=⟨a,fun _=>none,fun _ _=>none⟩
structure Cx.Le(C D:Cx):Prop where
 im:∀b o v,C.im b o=some v->D.im b o=some v
 bl:∀l b,C.bl l=some b->D.bl l=some b
 ar:∀l k r,C.ar l k=some r->D.ar l k=some r
theorem Cx.Le.refl(C:Cx):C.Le C:=⟨fun _ _ _ h=>h,fun _ _ h=>h,fun _ _ _ h=>h⟩
theorem Cx.Le.trans{C D E:Cx}(h:C.Le D)(k:D.Le E):C.Le E:=⟨fun b o v x=>k.im b o v (h.im b o v x),fun l b x=>k.bl l b (h.bl l b x),fun l v r x=>k.ar l v r (h.ar l v r x)⟩
def Cx.frozen(C:Cx):Cx:=Cx.pure C.im
theorem Cx.Le.frozen{C D:Cx}(h:C.Le D):C.frozen.Le D.frozen:=⟨h.im,(fun _ _ x=>by cases x),(fun _ _ _ x=>by cases x)⟩
theorem Cx.frozen_le(C:Cx):C.frozen.Le C:=⟨fun _ _ _ h=>h,(fun _ _ x=>by cases x),(fun _ _ _ x=>by cases x)⟩
inductive Rel:Cx->AV->Value->Prop|bool{C}(b:Bool):Rel C (.bool b) (.bool b)|int{C}(k:IntKind)(n:Int):Rel C (.int k n) (.int k n)|str{C}(s:List UInt8):Rel C (.str s) (.string ⟨s.toArray⟩)|agg{C}(cs:List AV)(vs:Array Value)(hl:cs.length=vs.size)(h:∀(i:Nat)c v,cs[i]?=some c->vs[i]?=some v->Rel C c v):Rel C (.agg cs) (.agg vs)|tup{C}(cs:List AV)(vs:Array Value)(hl:cs.length=vs.size)(h:∀(i:Nat)c v,cs[i]?=some c->vs[i]?=some v->Rel C c v):Rel C (.tup cs) (.tuple vs)|slnil{C}:Rel C (.sl []) (.slice none 0 0)|slz{C}(a:Addr)(cap:Nat):Rel C (.sl []) (.slice (some a) 0 cap)|sl{C:Cx}(rows:List (List AV))(b o cap size:Nat)(us:Nat->Nat->Value)(hcap:rows.length<=cap)(hsz:∀(i:Nat)row,rows[i]?=some row->row.length=size)(hc:∀(i:Nat)row(j:Nat)c,rows[i]?=some row->row[j]?=some c->C.im b (o+i*size+j)=some (us i j))(hr:∀(i:Nat)row(j:Nat)c,rows[i]?=some row->row[j]?=some c->Rel (Cx.pure C.im) c (us i j)):Rel C (.sl rows) (.slice (some ⟨b,o,none⟩) rows.length cap)|tsl{C:Cx}(rows:List (List AV))(b o size:Nat)(us:Nat->Nat->Value)(hsz:∀(i:Nat)row,rows[i]?=some row->row.length=size)(hc:∀(i:Nat)row(j:Nat)c,rows[i]?=some row->row[j]?=some c->C.im b (o+i*size+j)=some (us i j))(hr:∀(i:Nat)row(j:Nat)c,rows[i]?=some row->row[j]?=some c->Rel (Cx.pure C.im) c (us i j)):Rel C (.tsl rows) (.slice (some ⟨b,o,none⟩) rows.length rows.length)|tslnil{C}:Rel C (.tsl []) (.slice none 0 0)|tslz{C}(a:Addr):Rel C (.tsl []) (.slice (some a) 0 0)|nils{C}:Rel C .nils (.slice none 0 0)|ownnil{C:Cx}(l ver:Nat)(h:C.ar l ver=some none):Rel C (.own l ver 0) (.slice none 0 0)|own{C:Cx}(l ver n:Nat)(r:RowAt)(h:C.ar l ver=some (some r))(hn:n<=r.cap):Rel C (.own l ver n) (.slice (some ⟨r.block,0,none⟩) n r.cap)|win{C:Cx}(l ver lo n:Nat)(r:RowAt)(h:C.ar l ver=some (some r))(hn:lo+n<=r.cap):Rel C (.win l ver lo n) (.slice (some ⟨r.block,lo*r.size,none⟩) n (r.cap-lo))|ptr{C:Cx}(l off b:Nat)(h:C.bl l=some b):Rel C (.ptr l off) (.pointer (some ⟨b,off,none⟩))|fptr{C:Cx}(row:List AV)(off b o:Nat)(us:Nat->Value)(hc:∀(j:Nat)c,row[j]?=some c->C.im b (o+j)=some (us j))(hr:∀(j:Nat)c,row[j]?=some c->Rel (Cx.pure C.im) c (us j)):Rel C (.fptr row off) (.pointer (some ⟨b,o+off,none⟩))|eptr{C:Cx}(l ver i off:Nat)(r:RowAt)(h:C.ar l ver=some (some r)):Rel C (.eptr l ver i off) (.pointer (some ⟨r.block,i*r.size+off,none⟩))|gptr{C}(g off:Nat):Rel C (.gptr g off) (.pointer (some ⟨g,off,none⟩))|nilp{C}:Rel C .nilp (.pointer none)|map{C:Cx}(l b:Nat)(h:C.bl l=some b):Rel C (.map l) (.map (some b))|nilm{C}:Rel C .nilm (.map none)|fn{C}(f:FuncId)(caps:List AV)(vs:Array Value)(hl:caps.length=vs.size)(h:∀(i:Nat)c v,caps[i]?=some c->vs[i]?=some v->Rel C c v):Rel C (.fn f caps) (.func (.func f) #[] vs)|mth{C}(f:FuncId)(a:AV)(v:Value)(h:Rel C a v):Rel C (.mth f a) (.func (.func f) #[v] #[])|nilf{C}:Rel C .nilf .nilFunc|iface{C}(t:TypeId)(a:AV)(v:Value)(h:Rel C a v):Rel C (.iface t a) (.iface t v)|nili{C}:Rel C .nili .nilIface|yld{C:Cx}(l b:Nat)(h:C.bl l=some b):Rel C (.yld l) (.func (.yield b) #[] #[])|junk{C}(v:Value):Rel C .junk v
theorem Rel.mono{C D:Cx}{a:AV}{v:Value}(h:Rel C a v)(d:C.Le D):Rel D a v:=by induction h generalizing D with
 |bool b=>exact .bool b|int k n=>exact .int k n|str s=>exact .str s|agg I G A _ e=>exact .agg I G A fun i c v p E=>e i c v p E d|tup I G A _ e=>exact .tup I G A fun i c v p E=>e i c v p E d|slnil=>exact .slnil|slz a H=>exact .slz a H|sl L b o H M F O K p _ e=>exact .sl L b o H M F O K (fun i q j c m u=>d.im _ _ _ (p i q j c m u)) (fun i q j c m u=>e i q j c m u ⟨d.im,(fun _ _ x=>by cases x),(fun _ _ _ x=>by cases x)⟩)|tsl L b o M F K p _ e=>exact .tsl L b o M F K (fun i q j c m u=>d.im _ _ _ (p i q j c m u)) (fun i q j c m u=>e i q j c m u ⟨d.im,(fun _ _ x=>by cases x),(fun _ _ _ x=>by cases x)⟩)|tslnil=>exact .tslnil|tslz a=>exact .tslz a|nils=>exact .nils|ownnil l z h=>exact .ownnil l z (d.ar _ _ _ h)|own l z n r h J=>exact .own l z n r (d.ar _ _ _ h) J|win l z Q n r h J=>exact .win l z Q n r (d.ar _ _ _ h) J|ptr l y b h=>exact .ptr l y b (d.bl _ _ h)|fptr q y b o F p _ e=>exact .fptr q y b o F (fun j c m=>d.im _ _ _ (p j c m)) (fun j c m=>e j c m ⟨d.im,(fun _ _ x=>by cases x),(fun _ _ _ x=>by cases x)⟩)|eptr l z i y r h=>exact .eptr l z i y r (d.ar _ _ _ h)|gptr g y=>exact .gptr g y|nilp=>exact .nilp|map l b h=>exact .map l b (d.bl _ _ h)|nilm=>exact .nilm|fn f N G A _ e=>exact .fn f N G A fun i c v p E=>e i c v p E d|mth f a v _ e=>exact .mth f a v (e d)|nilf=>exact .nilf|iface t a v _ e=>exact .iface t a v (e d)|nili=>exact .nili|yld l b h=>exact .yld l b (d.bl _ _ h)|junk v=>exact .junk v
def RelL(C:Cx)(a:List AV)(b:List Value):Prop:=a.length=b.length/\∀(i:Nat)c v,a[i]?=some c->b[i]?=some v->Rel C c v
theorem RelL.mono{C D:Cx}{a:List AV}{b:List Value}(h:RelL C a b)(e:C.Le D):RelL D a b:=⟨h.1,fun i c v d f=>(h.2 i c v d f).mono e⟩
theorem RelL.nil{C:Cx}:RelL C [] []:=⟨rfl,fun i c v a=>by simp at a⟩
theorem RelL.cons{C:Cx}{a:AV}{v:Value}{e:List AV}{f:List Value}(h:Rel C a v)(k:RelL C e f):RelL C (a::e) (v::f):=by
 refine⟨by simp[k.1],fun i c u b d=>?_⟩;cases i with
 |zero=>simp at b d;subst b d;exact h|succ i=>simp at b d;exact k.2 i c u b d
theorem RelL.inv_cons{C:Cx}{a:AV}{e:List AV}{d:List Value}(h:RelL C (a::e) d):∃v b,d=v::b/\Rel C a v/\RelL C e b:=by cases d with
 |nil=>simp[RelL]at h|cons v b=>
  refine⟨v,b,rfl,h.2 0 a v rfl rfl,?_,fun i c u f g=>h.2 (i+1) c u (by simpa using f) (by simpa using g)⟩;have:=h.1;simp at this;exact this
theorem RelL.inv_nil{C:Cx}{a:List Value}(h:RelL C [] a):a=[]:=by cases a with
 |nil=>rfl|cons v b=>simp[RelL]at h
theorem RelL.append{C:Cx}{d e:List AV}{j g:List Value}(h:RelL C d j)(k:RelL C e g):RelL C (d++e) (j++g):=by
 refine⟨by simp[h.1,k.1],fun i c u a b=>?_⟩;by_cases f:i<d.length
 ·rw[aX f]at a;rw[aX (by rw[<-h.1];exact f)]at b;exact h.2 i c u a b
 ·rw[dY (by omega)]at a;rw[dY (by rw[<-h.1];omega),<-h.1]at b;exact k.2 _ c u a b
theorem RelL.take{C:Cx}{d:List AV}{e:List Value}(h:RelL C d e)(n:Nat):RelL C (d.take n) (e.take n):=by
 refine⟨by simp[h.1],fun i c u a b=>?_⟩;rw[fS]at a b;split at a;·rename_i f;rw[if_pos f]at b;exact h.2 i c u a b
 ·cases a
theorem RelL.drop{C:Cx}{a:List AV}{e:List Value}(h:RelL C a e)(n:Nat):RelL C (a.drop n) (e.drop n):=by
 refine⟨by simp[h.1],fun i c u b d=>?_⟩;rw[oH]at b d;exact h.2 _ c u b d
theorem RelL.get{C:Cx}{b:List AV}{a:List Value}(h:RelL C b a){i:Nat}{c:AV}(d:b[i]?=some c):∃v,a[i]?=some v/\Rel C c v:=by
 have e:i<a.length:=by rw[<-h.1];exact(aF.1 d).1
 exact⟨a[i],by simp[e],h.2 i c _ d (by simp[e])⟩
theorem RelL.set{C:Cx}{f:List AV}{l:List Value}(h:RelL C f l)(i:Nat){a:AV}{v:Value}(k:Rel C a v):RelL C (f.set i a) (l.set i v):=by
  refine⟨by simp[h.1],fun j c u b d=>?_⟩;rw[iZ]at b d;have:=h.1;by_cases e:i=j
  · subst e;simp only[aM]at b d;by_cases g:i<f.length
    ·rw[if_pos g]at b;rw[if_pos (by omega)]at d;injection b with b;injection d with d;subst b d;exact k
    ·rw[if_neg g]at b;cases b
  ·rw[if_neg e]at b d;exact h.2 j c u b d
def AV.cells:AV->List AV
 |.agg a=>a|.junk=>[]|v=>[v]
theorem JI{C:Cx}{a:AV}{v:Value}(h:Rel C a v)(g:a.cells≠[]):RelL C a.cells v.cells.toList:=by
 have d:=h;cases h with
 |agg b k f h=>exact⟨by show b.length=k.toList.length;simpa using f,fun i c u e j=>h i c u e (by simpa[Value.cells]using j)⟩|junk v=>exact absurd rfl g|_=>exact .cons d .nil
inductive MX where|normal|exit(id:Nat)|ret deriving Inhabited
inductive Blk where|cellsT(tg:Option TypeId)(vs:List AV)|arrX(ne:Bool)(tg:Option TypeId)(size ver:Nat)(rows:List (List AV))(wr:Bool)|map(es:List (AV×AV))|iter(s:List UInt8)(pos:Nat)|lp(busy:Bool)(x:MX)|mit(m:Option Nat)(n:Nat)(seen:List Nat)(last:Nat)|dead deriving Inhabited
@[match_pattern]abbrev Blk.arrT(tg:Option TypeId)(b c:Nat)(a:List (List AV))(d:Bool):Blk:=.arrX false tg b c a d
@[match_pattern]abbrev Blk.cells(a:List AV):Blk:=.cellsT none a
@[match_pattern]abbrev Blk.arr(b c:Nat)(a:List (List AV))(d:Bool):Blk:=.arrT none b c a d
abbrev aA:=List Blk
inductive EK where|b|i|s deriving Inhabited
inductive PK where|settle|nest|spare(m:Nat)|slot(p:Nat)|frzv deriving Inhabited
inductive AO where|bot|mv|pick|strid|bin(op:BinOp)|eqA(neg:Bool)(ks:List EK)|eqB(neg:Bool)|un(op:UnOp)|conv(k:IntKind)|fadr(off:Nat)|fld(off size:Nat)(agg:Bool)|iadr(size:Nat)|aadr(len size:Nat)|istr|iarr(len size:Nat)(agg:Bool)|ld(size:Nat)(agg:Bool)|len(k:Nat)|ext(i:Nat)|look(kind:EK)(ok:Bool)(zero:AV)|mkfn(f:FuncId)|mkmth(f:FuncId)|mkif(t:TypeId)|slc(size:Option Nat)(lo hi mx:Bool)|bld(zero:List AV)(parts:List (Nat×Nat))|min|max|nilck|alloc(zero:List AV)|box|st(size:Nat)|newnil(size:Nat)|mkmap|mapup(kind:EK)|mksl(zero:List AV)(bytes:Nat)|bsl(own:Bool)(size:Nat)|app(str:Bool)(size bytes:Nat)|rng|nxt|rngm|ent|lookA(ks:List EK)(ok:Bool)(zero:AV)|mapupA(ks:List EK)|ment(kind:EK)(zero:AV)|estore|call(f:FuncId)|callv|b2s|s2b|cpy(str:Bool)(size:Nat)|isnil(neg:Bool)|isnili(neg:Bool)|isnilp(neg:Bool)|usd|ustr(e:TypeId)|allocB(t e:TypeId)|boxB(t e:TypeId)|appT(str:Bool)(size bytes:Nat)(e:TypeId)|slcf(size:Nat)(lo hi mx:Bool)|callg(f:FuncId)|bslK(own:Bool)(size:Nat)|pre(ks:List PK)(o:AO)deriving Inhabited
inductive At where|t(n:Nat)|c(v:AV)deriving Inhabited
structure MI where
 g:Option (Nat×Bool)dst:Option Nat
 kept:Bool
 o:AO
 args:List At deriving Inhabited
inductive R where|ok(env fr:List (Nat×AV))(h:aA)|bad deriving Inhabited
def lkp(t:Nat):List (Nat×AV)->Option AV
 |[]=>none|(k,v)::r=>if t=k then some v else lkp t r
def upd(t:Nat)(v:AV):List (Nat×AV)->List (Nat×AV)
 |[]=>[]|(k,x)::r=>if t=k then(k,v)::r else(k,x)::upd t v r
def aV(a b:List (Nat×AV))(t:Nat):Option AV:=match lkp t a with
 |some v=>some v|none=>lkp t b
def gO(e:Nat->Option AV):At->Option AV
 |.t n=>e n|.c v=>some v
def iF(e:Nat->Option AV):List At->Option (List AV)
 |[]=>some []|a::b=>match gO e a,iF e b with
  |some v,some c=>some (v::c)|_,_=>none
def jJ(c:BinOp)(k:IntKind)(a b:Int):Option AV:=match c with
 |.add=>some (.int k (k.wrap (a+b)))|.sub=>some (.int k (k.wrap (a-b)))|.mul=>some (.int k (k.wrap (a*b)))|.quo=>if b=0 then none else some (.int k (k.wrap (a.tdiv b)))|.rem=>if b=0 then none else some (.int k (a.tmod b))|.and=>some (.int k (k.wrap (BitVec.ofInt k.bits a&&&BitVec.ofInt k.bits b).toNat))|.or=>some (.int k (k.wrap (BitVec.ofInt k.bits a|||BitVec.ofInt k.bits b).toNat))|.xor=>some (.int k (k.wrap (BitVec.ofInt k.bits a^^^BitVec.ofInt k.bits b).toNat))|.andNot=>some (.int k (k.wrap (BitVec.ofInt k.bits a&&&~~~BitVec.ofInt k.bits b).toNat))|.eql=>some (.bool (a==b))|.neq=>some (.bool (a !=b))|.lss=>some (.bool (decide (a<b)))|.leq=>some (.bool (decide (a<=b)))|.gtr=>some (.bool (decide (b<a)))|.geq=>some (.bool (decide (b<=a)))|_=>none
def rZ:Nat:=1099511627776
def eC(c:BinOp)(a b:List UInt8):Option AV:=match c with
 |.add=>if a.length+b.length<=rZ then some (.str (a++b))else none|.eql=>some (.bool (a==b))|.neq=>some (.bool (!(a==b)))|.lss=>some (.bool (Op.bytesLess a b))|.leq=>some (.bool (Op.bytesLess a b||a==b))|.gtr=>some (.bool (!(Op.bytesLess a b||a==b)))|.geq=>some (.bool (!(Op.bytesLess a b)))|_=>none
def bY(c:BinOp):AV->AV->Option AV
 |.int k a,.int d b=>if c=.shl\/c=.shr then(if b<0 then none else some (.int k (if c=.shl then k.wrap (a*2^(Nat.min b.toNat k.bits))else a.fdiv (2^(Nat.min b.toNat k.bits)))))else if k=d then jJ c k a b else none|.str a,.str b=>eC c a b|_,_=>none
def GO(a:UnOp):AV->Option AV
 |.bool b=>match a with|.not=>some (.bool (!b))|_=>none
 |.int k n=>match a with
  |.neg=>some (.int k (k.wrap (0-n)))|.xor=>some (.int k (k.wrap (BitVec.ofInt k.bits (if k.signed then-1 else k.max)^^^BitVec.ofInt k.bits n).toNat))|_=>none
 |_=>none
def eV:List EK->List AV->List AV->Option Bool
 |[],[],[]=>some true|.i::c,.int k a::x,.int d b::y=>if k=d then(if a=b then eV c x y else some false)else none|.s::c,.str a::x,.str b::y=>if a=b then eV c x y else some false|.b::c,.bool a::x,.bool b::y=>if a=b then eV c x y else some false|_,_,_=>none
def aD(b:Bool)(c:Nat)(a:List AV):Option AV:=if b then(if a.length=c then some (.agg a)else none)else match a with
 |[v]=>some v|_=>none
def cut(a:List AV)(b c:Nat):List AV:=(a.drop b).take c
def bF:List AV->Nat->List AV->List AV
 |a,_,[]=>a|a,b,c::d=>bF (a.set b c) (b+1) d
def aB(a:Nat)(c:Bool)(h:aA):AV->Option AV
 |.ptr l b=>match h[l]? with
  |some (.cellsT _ j)=>aD c a (cut j b a)|_=>none
 |.fptr d b=>aD c a (cut d b a)|.eptr l f i b=>match h[l]? with
  |some (.arrX _ _ _ g e _)=>if f=g then(match e[i]? with
   |some d=>aD c a (cut d b a)|none=>none)else none|_=>none
 |_=>none
def rowsOf(h:aA):AV->Option (List (List AV))
 |.sl a=>some a|.tsl a=>some a|.nils=>some []|.own l b n=>match h[l]? with
  |some (.arrT _ _ c a _)=>if b=c/\n<=a.length then some (a.take n)else none|_=>none
 |_=>none
def bN(c:Nat)(h:aA):AV->AV->Option AV
 |.sl b,.int _ i=>if 0<=i then(match b[i.toNat]? with
  |some a=>if a.length=c then some (.fptr a 0)else none|none=>none)else none|.tsl b,.int _ i=>if 0<=i then(match b[i.toNat]? with
  |some a=>if a.length=c then some (.fptr a 0)else none|none=>none)else none|.own l d n,.int _ i=>match h[l]? with
  |some (.arrX _ _ _ e b _)=>if d=e/\n<=b.length/\0<=i/\i<n then(match b[i.toNat]? with
   |some a=>if a.length=c then some (.eptr l d i.toNat 0)else none|none=>none)else none|_=>none
 |_,_=>none
def GT(h:aA)(l c a n:Nat):Option (List (List AV)):=match h[l]? with
 |some (.arrT _ _ d b _)=>if c=d/\a+n<=b.length then some ((b.drop a).take n)else none|_=>none
def aW(h:aA):Nat->AV->Option AV
 |0,.str s=>some (.int .i64 s.length)|1,.sl a=>some (.int .i64 a.length)|1,.tsl a=>some (.int .i64 a.length)|1,.nils=>some (.int .i64 0)|1,.own _ _ n=>some (.int .i64 n)|2,.map l=>match h[l]? with
  |some (.map b)=>some (.int .i64 b.length)|_=>none
 |2,.nilm=>some (.int .i64 0)|_,_=>none
def qA:EK->AV->AV->Option Bool
 |.s,.str a,.str b=>some (a==b)|.i,.int k a,.int c b=>if k=c then some (a==b)else none|.b,.bool a,.bool b=>some (a==b)|_,_,_=>none
def iP(e:EK)(k:AV):List (AV×AV)->Option (Option AV)
 |[]=>some none|(a,v)::r=>match qA e k a with
  |some true=>some (some v)|some false=>iP e k r|none=>none
def tG(e:EK)(k v:AV):List (AV×AV)->Option (List (AV×AV))
 |[]=>some [(k,v)]|(a,u)::r=>match qA e k a with
  |some true=>some ((a,v)::r)|some false=>(tG e k v r).map ((a,u)::·)|none=>none
def isKey:EK->AV->Bool
 |.s,.str _=>true|.i,.int _ _=>true|.b,.bool _=>true|_,_=>false
def rP:List EK->List AV->Bool
 |[],[]=>true|k::c,a::b=>isKey k a&&rP c b|_,_=>false
def iY(a:List EK)(b:List AV):List (AV×AV)->Option (Option AV)
 |[]=>some none|(.agg c,v)::r=>if c.length=a.length then(match eV a b c with
  |some true=>some (some v)|some false=>iY a b r|none=>none)else none|_=>none
def kZ(c:List EK)(b:List AV)(v:AV):List (AV×AV)->Option (List (AV×AV))
 |[]=>some [(.agg b,v)]|(.agg a,u)::r=>if a.length=c.length then(match eV c b a with
  |some true=>some ((.agg a,v)::r)|some false=>(kZ c b v r).map ((.agg a,u)::·)|none=>none)else none|_=>none
def pA(b:Bool)(a:List AV):Option (Option Int×List AV):=if b then(match a with
 |.int _ n::r=>some (some n,r)|_=>none)else some (none,a)
def qL(e d f:Bool)(c:List AV):Option (Option Int×Option Int×Option Int):=match pA e c with
 |some (l,a)=>match pA d a with
  |some (r,b)=>match pA f b with
   |some (m,[])=>some (l,r,m)|_=>none
  |none=>none
 |none=>none
def dH(n:Nat):List (List AV)->Bool
 |[]=>true|r::a=>r.length=n&&dH n a
def BH(s:List UInt8)(b a:Option Int):Option AV:=if 0<=b.getD 0/\b.getD 0<=a.getD s.length/\a.getD s.length<=s.length then some (.str ((s.take (a.getD s.length).toNat).drop (b.getD 0).toNat))else none
def yA(d:Nat)(a:List (List AV))(b c:Option Int):Option Int->Option AV
 |none=>if 0<=b.getD 0/\b.getD 0<=c.getD a.length/\c.getD a.length<=a.length/\dH d a then some (.sl ((a.take (c.getD a.length).toNat).drop (b.getD 0).toNat))else none|some m=>if c=some m/\0<=b.getD 0/\b.getD 0<=m/\m<=a.length/\dH d a then some (.tsl ((a.take m.toNat).drop (b.getD 0).toNat))else none
def qK(e:Option Nat)(x:AV)(b a c:Option Int):Option AV:=match e,x with
 |none,.str s=>if c.isNone then BH s b a else none|some n,.sl d=>yA n d b a c|some n,.tsl d=>if c.isNone then yA n d b a none else none|some _,.nils=>if c.isNone/\b.getD 0=0/\a.getD 0=0 then some .nils else none|_,_=>none
def eB:List AV->List (Nat×Nat)->List AV->Option (List AV)
 |a,[],[]=>some a|a,(c,b)::d,v::e=>if v.cells.length=b/\0<b/\c+b<=a.length then eB (bF a c v.cells) d e else none|_,_,_=>none
def ZO:AV->AV->Option AV
 |.int k x,.int a y=>if k=a then some (.int k (if y<x then y else x))else none|_,_=>none
def LC:AV->AV->Option AV
 |.int k x,.int a y=>if k=a then some (.int k (if x<y then y else x))else none|_,_=>none
def qZ:List (List AV)->Option (List UInt8)
 |[]=>some []|[.int .u8 n]::r=>if 0<=n/\n<256 then(qZ r).map (UInt8.ofNat n.toNat::·)else none|_=>none
def GJ:AV->Option Bool
 |.nili=>some false|.iface _ _=>some true|_=>none
def GK:AV->Option Bool
 |.nilp=>some false|.ptr _ _=>some true|.fptr _ _=>some true|.eptr _ _ _ _=>some true|.gptr _ _=>some true|_=>none
def there:AV->Option Bool
 |.nils=>some false|.sl (_::_)=>some true|.tsl (_::_)=>some true|.own _ _ (_+1)=>some true|_=>none
def rG(h:aA)(l:Nat):Option AV:=match h[l]? with
 |some (.mit (some m) _ seen b)=>(match seen.getLast?,h[m]? with
  |some i,some (.map a)=>if a.length=b then(match a[i]? with
   |some (k,v)=>some (.tup [k,v])|none=>none)else none|_,_=>none)|_=>none
def iG(h:aA)(l:Nat):Option (List (AV×aA)):=match h[l]? with
 |some (.mit none _ _ _)=>some [(.tup [.bool false],h.set l .dead)]|some (.mit (some m) n seen c)=>(match h[m]? with
  |some (.map a)=>if a.length=n/\c=n then(match(List.range n).filter fun i=>!seen.contains i with
   |[]=>some [(.tup [.bool false],h.set l .dead)]|i::b=>some ((i::b).map fun i=>(.tup [.bool true,(a[i]?.getD (.junk,.junk)).1,(a[i]?.getD (.junk,.junk)).2],h.set l (.mit (some m) n (seen++[i]) n))))else none|_=>none)|_=>none
def BG(d:Option Nat)(h:aA)(x:AV)(a b c:Option Int):Option AV:=match d,x with
 |some g,.own l e n=>match h[l]? with
  |some (.arrT _ i j f _)=>if i=g/\j=e/\c=none/\0<=a.getD 0/\a.getD 0<b.getD n/\b.getD n<=n/\n<=f.length then some (.win l e (a.getD 0).toNat (b.getD n-a.getD 0).toNat)else none|_=>none
 |_,_=>qK d x a b c
@[simp]theorem xW8{h:aA}{s:List UInt8}{b a c:Option Int}:BG none h (.str s) b a c=qK none (.str s) b a c:=rfl
@[simp]theorem xW7{h:aA}{n:Nat}{d:List (List AV)}{b a c:Option Int}:BG (some n) h (.sl d) b a c=qK (some n) (.sl d) b a c:=rfl
@[simp]theorem xW9{h:aA}{n:Nat}{d:List (List AV)}{b a c:Option Int}:BG (some n) h (.tsl d) b a c=qK (some n) (.tsl d) b a c:=rfl
@[simp]theorem xW6{h:aA}{n:Nat}{b a c:Option Int}:BG (some n) h .nils b a c=qK (some n) .nils b a c:=rfl
def bV(h:aA):AO->List AV->Option AV
 |.mv,[x]=>some x|.pick,[.bool c,x,y]=>some (if c then x else y)|.strid,[.str s]=>some (.str s)|.bin I,[x,y]=>bY I x y|.eqA p u,[.agg L,.agg M]=>if L.length=u.length/\M.length=u.length then(eV u L M).map fun b=>.bool (if p then !b else b)else none|.eqB p,[.bool x,.bool y]=>some (.bool (if p then !(x==y)else x==y))|.un I,[x]=>GO I x|.conv k,[.int _ n]=>some (.int k (k.wrap n))|.fadr o,[.ptr l d]=>some (.ptr l (d+o))|.fadr o,[.fptr E d]=>some (.fptr E (d+o))|.fadr o,[.eptr l A i d]=>some (.eptr l A i (d+o))|.fld d g D,[.agg G]=>aD D g (cut G d g)|.iadr g,[x,i]=>bN g h x i|.aadr q g,[.ptr l d,.int _ i]=>if 0<=i/\i<q/\2<=q then some (.ptr l (d+i.toNat*g))else none|.aadr q g,[.fptr E d,.int _ i]=>if 0<=i/\i<q/\2<=q then some (.fptr E (d+i.toNat*g))else none|.istr,[.str s,.int _ i]=>if 0<=i then(match s[i.toNat]? with
  |some b=>some (.int .u8 b.toNat)|none=>none)else none|.iarr q g D,[.agg G,.int _ i]=>if 0<=i/\i<q then aD D g (cut G (i.toNat*g) g)else none|.ld g D,[a]=>aB g D h a|.len k,[x]=>aW h k x|.ent,[.ptr l 0]=>rG h l|.lookA u z j,[m,.agg K]=>if K.length=u.length then(match m with
  |.map l=>(match h[l]? with
   |some (.map H)=>(iY u K H).map fun r=>if z then .tup [r.getD j,.bool r.isSome]else r.getD j|_=>none)|.nilm=>some (if z then .tup [j,.bool false]else j)|_=>none)else none|.ext i,[.tup J]=>J[i]?|.look e z j,[m,k]=>if isKey e k then match m with
   |.map l=>match h[l]? with
    |some (.map H)=>(iP e k H).map fun
     |some v=>if z then .tup [v,.bool true]else v|none=>if z then .tup [j,.bool false]else j
    |_=>none
   |.nilm=>some (if z then .tup [j,.bool false]else j)|_=>none else none|.mkfn f,F=>some (.fn f F)|.mkmth f,[x]=>some (.mth f x)|.mkif t,[x]=>some (.iface t x)|.slc g Q O S,x::N=>match qL Q O S N with
  |some (l,r,m)=>BG g h x l r m|none=>none
 |.bld j T,J=>(eB j T J).map .agg|.min,[x,y]=>ZO x y|.max,[x,y]=>LC x y|.nilck,[.ptr l d]=>some (.ptr l d)|.nilck,[.fptr E d]=>some (.fptr E d)|.nilck,[.eptr l A i d]=>some (.eptr l A i d)|.nilck,[.fn f F]=>some (.fn f F)|.b2s,[x]=>match rowsOf h x with
  |some U=>(qZ U).map .str|none=>none
 |.isnil p,[x]=>(there x).map fun b=>.bool (if p then b else !b)|.usd,[.nils]=>some .nilp|.usd,[.own l A n]=>if n=0 then(match h[l]? with
   |some (.arrT (some _) _ V [] _)=>if A=V then some .nilp else none|_=>none)else some (.eptr l A 0 0)|.isnili p,[x]=>(GJ x).map fun b=>.bool (if p then b else !b)|.isnilp p,[x]=>(GK x).map fun b=>.bool (if p then b else !b)|_,_=>none
def GD(d:Nat)(x:AV)(b a c:Option Int):Option AV:=match x with
 |.own l e n=>if c.isNone/\b.getD 0=0/\0<=a.getD n/\a.getD n<=n then some (.own l e (a.getD n).toNat)else none|_=>qK (some d) x b a c
mutual def view(h:aA):AV->Option AV
 |.bool b=>some (.bool b)|.int k n=>some (.int k n)|.str s=>some (.str s)|.agg j=>(cV h j).map .agg|.sl c=>some (.sl c)|.tsl c=>some (.sl c)|.nils=>some (.sl [])|.own l d n=>(rowsOf h (.own l d n)).map .sl|.win l d m n=>(GT h l d m n).map .sl|.fptr p o=>some (.fptr p o)|.nilp=>some .nilp|.nilm=>some .nilm|.nilf=>some .nilf|.nili=>some .nili|.fn f i=>(cV h i).map (.fn f)|.iface t v=>(view h v).map (.iface t)|.tup e=>(cV h e).map .tup|_=>none def cV(h:aA):List AV->Option (List AV)
 |[]=>some []|a::g=>match view h a,cV h g with
  |some v,some e=>some (v::e)|_,_=>none end
mutual def fH(h:aA):AV->Option AV
 |.bool b=>some (.bool b)|.int k n=>some (.int k n)|.str s=>some (.str s)|.agg i=>(qQ h i).map .agg|.sl c=>some (.sl c)|.tsl c=>some (.tsl c)|.nils=>some .nils|.own l o n=>(rowsOf h (.own l o n)).map .sl|.fptr m j=>some (.fptr m j)|.nilp=>some .nilp|.nilm=>some .nilm|.nilf=>some .nilf|.nili=>some .nili|.fn f g=>(qQ h g).map (.fn f)|.iface t v=>(fH h v).map (.iface t)|.tup d=>(qQ h d).map .tup|_=>none def qQ(h:aA):List AV->Option (List AV)
 |[]=>some []|a::e=>match fH h a,qQ h e with
  |some v,some d=>some (v::d)|_,_=>none end
mutual def owns:AV->List Nat
 |.own l _ _=>[l]|.win l _ _ _=>[l]|.agg d=>eZ d|.fn _ c=>eZ c|.mth _ v=>owns v|.iface _ v=>owns v|.tup e=>eZ e|_=>[]def eZ:List AV->List Nat
 |[]=>[]|a::b=>owns a++eZ b end
def jX(h:aA)(l:Nat):aA:=match h[l]? with
 |some (.arrT tg n b a _)=>h.set l (.arrT tg n b a false)|_=>h
def dC(h:aA):List Nat->aA
 |[]=>h|l::a=>dC (jX h l) a
def frz(h:aA)(v:AV):Option (AV×aA):=(view h v).map fun u=>(u,dC h (owns v))
def xA(h:aA)(a:List AV):Option (List AV×aA):=(cV h a).map fun b=>(b,dC h (eZ a))
def EI(h:aA)(v:AV):Option (AV×aA):=(fH h v).map fun u=>(u,dC h (owns v))
def QN(h:aA)(a:List AV):Option (List AV×aA):=(qQ h a).map fun b=>(b,dC h (eZ a))
def GS(h:aA):List (List AV)->Option (List (List AV))
 |[]=>some []|r::a=>match cV h r,GS h a with
  |some v,some b=>some (v::b)|_,_=>none
def zd8(h:aA):AV->Option aA
 |.own l _ _=>match h[l]? with
  |some (.arrX true tg c d a e)=>(GS h a).map fun b=>(dC h (eZ a.flatten)).set l (.arrX false tg c d b e)|_=>some h
 |_=>some h
def xY(h:aA):List AV->Option aA
 |[]=>some h|a::b=>match zd8 h a with
  |some c=>xY c b|none=>none
def AW(k:PK)(h:aA)(b:List AV):Option (aA×List AV):=match k with
 |.settle=>(xY h b).map fun e=>(e,b)|.nest=>match b with
  |[.eptr l c i f,v]=>match h[l]? with
   |some (.arrX false tg d j g true)=>if(owns v).isEmpty then some (h,b)else some (h.set l (.arrX true tg d j g true),[.eptr l c i f,v])|_=>some (h,b)
  |_=>some (h,b)
 |.frzv=>match b with
  |[a,v]=>(frz h v).map fun r=>(r.2,[a,r.1])|_=>none
 |.spare m=>some (h++[.arr m 0 [] true],b)|.slot p=>match b with
  |.nils::r=>match h[p]? with
   |some (.arrX false _ d c _ _)=>some (h.set p (.arr d (c+1) [] true),.own p (c+1) 0::r)|_=>none
  |_=>some (h,b)
def vJ:List PK->aA->List AV->Option (aA×List AV)
 |[],h,a=>some (h,a)|k::c,h,a=>match AW k h a with
  |some (b,d)=>vJ c b d|none=>none
def GC(d:Nat)(h:aA)(x:AV)(b a c:Option Int):Option (AV×aA):=match GD d x b a c with
 |some v=>some (v,h)|none=>match x with
  |.own l g n=>match frz h (.own l g n)with
   |some (.sl f,e)=>(yA d f b a c).map fun v=>(v,e)|_=>none
  |_=>none
mutual def scalar:AV->Bool
 |.bool _|.int _ _|.str _=>true|.tup c=>MS c|_=>false def MS:List AV->Bool
 |[]=>true|a::b=>scalar a&&MS b end
abbrev RdF:=Nat->aA->Option (Option (List AV)×aA)
abbrev ItF:=List AV->aA->RdF
inductive CT where|pure(F:List AV->Option AV)|gen(F:List AV->aA->Option (AV×aA))|iter(F:ItF)
structure Gam where
 fn:FuncId->Option CT
 y:Nat->List AV->aA->Option (AV×aA)
instance:CoeFun Gam (fun _=>FuncId->Option CT):=⟨Gam.fn⟩
def dE(G:Gam)(f:FuncId)(a:List AV)(h:aA):Option (AV×aA):=match G f with
 |some (.pure F)=>match cV h a with
  |some b=>match F b with
   |some r=>if scalar r then some (r,h)else some (r,dC h (eZ a))|none=>none
  |none=>none
 |some (.gen F)=>F a h|_=>none
def bE:AV->Bool
 |.agg _|.tup _|.junk=>false|_=>true
def nN:List (List AV)->Bool
 |[]=>true|r::a=>r.all bE&&nN a
def lZ(h:aA)(a:Bool)(x:AV):Option (List (List AV)):=if a then(match x with
 |.str s=>some (s.map fun b=>[.int .u8 b.toNat])|_=>none)else rowsOf h x
def dJ:Nat:=140737488355328
def sA(tg a:Option TypeId):Option TypeId:=if tg=a then a else none
@[simp]theorem xw6(tg:Option TypeId):sA tg none=none:=by unfold sA;split<;>rfl
@[simp]theorem xX2(tg:Option TypeId):sA tg tg=tg:=by simp[sA]
def nH(e:Option TypeId)(c bytes:Nat)(h:aA)(s:AV)(a:List (List AV)):Option (AV×aA):=match s with
 |.own l d n=>match h[l]? with
  |some (.arrT tg f g b i)=>if d=g/\n=b.length/\i=true/\f=c then(if a=[]then some (.own l d n,h)else if(n+a.length)*bytes<=dJ/\n+a.length<=dJ then some (.own l (d+a.length) (n+a.length),h.set l (.arrT (sA tg e) c (d+a.length) (b++a) true))else none)else none|_=>none
 |.nils=>if a=[]then some (.nils,h)else if a.length*bytes<=dJ/\a.length<=dJ then some (.own h.length 0 a.length,h++[.arrT e c 0 a true])else none|.tsl b=>if a=[]then some (.tsl b,h)else if(b.length+a.length)*bytes<=dJ/\b.length+a.length<=dJ/\dH c b then some (.own h.length 0 (b.length+a.length),h++[.arrT e c 0 (b++a) true])else none|_=>none
def bB(c:Nat)(h:aA)(a v:AV):Option aA:=if v.cells.length=c/\0<c/\v.cells.all bE then match a with
 |.ptr l b=>match h[l]? with
  |some (.cellsT tg m)=>if b+c<=m.length then some (h.set l (.cellsT tg (bF m b v.cells)))else none|_=>none
 |.eptr l f i b=>match h[l]? with
  |some (.arrX true tg g j e true)=>if f=j then(match e[i]? with
    |some d=>if b+c<=d.length then some (h.set l (.arrX true tg g f (e.set i (bF d b v.cells)) true))else none|none=>none)else none|_=>match frz h v with
   |some (u,k)=>match k[l]? with
    |some (.arrT tg g j e true)=>if f=j then(match e[i]? with
     |some d=>if b+c<=d.length/\u.cells.length=c/\u.cells.all bE then some (k.set l (.arrT tg g f (e.set i (bF d b u.cells)) true))else none|none=>none)else none|_=>none
   |none=>none
 |_=>none else none
def zp8(t e:TypeId)(h:aA):AV->Option (AV×aA)
 |.agg [.nilp,.nils]=>some (.ptr (h.length+1) 0,h++[.arrT (some e) 1 0 [] true]++[.cellsT (some t) [.nilp,.own h.length 0 0]])|_=>none
def bC(G:Gam)(h:aA):AO->List AV->Option (AV×aA)
 |.alloc H,[]=>some (.ptr h.length 0,h++[.cells H])|.box,[v]=>match v.cells with
  |[]=>none|c::Q=>some (.ptr h.length 0,h++[.cells (c::Q)])
 |.st d,[a,v]=>(bB d h a v).map fun S=>(.junk,S)|.newnil d,[]=>some (.own h.length 0 0,h++[.arr d 0 [] true])|.mkmap,[]=>some (.map h.length,h++[.map []])|.mapup e,[.map l,k,v]=>if isKey e k then(match frz h v with
  |some (u,g)=>match g[l]? with
   |some (.map j)=>(tG e k u j).map fun K=>(.junk,g.set l (.map K))|_=>none
  |none=>none)else none|.mapupA L,[.map l,.agg I,v]=>if rP L I/\I.length=L.length then(match frz h v with
  |some (u,g)=>match g[l]? with
   |some (.map j)=>(kZ L I u j).map fun K=>(.junk,g.set l (.map K))|_=>none
  |none=>none)else none|.ment e z,[.map l,k]=>if isKey e k then(match h[l]? with
  |some (.map j)=>(match iP e k j with
   |some none=>some (.tup [z,.int .i64 j.length],h.set l (.map (j++[(k,z)])))|_=>none)|_=>none)else none|.estore,[.map l,.int .i64 i,v]=>if 0<=i then(match frz h v with
  |some (u,g)=>match g[l]? with
   |some (.map j)=>(j[i.toNat]?).map fun q=>(.junk,g.set l (.map (j.set i.toNat (q.1,u))))|_=>none
  |none=>none)else none|.mksl H bytes,[.int _ n,.int _ c]=>if 0<=n/\n<=c/\c.toNat*bytes<=dJ/\c.toNat<=dJ then some (.own h.length 0 n.toNat,h++[.arr H.length 0 (List.replicate n.toNat H) true])else none|.bsl own d,N=>match xA h N with
  |some (o,g)=>if dH d (o.map AV.cells)/\nN (o.map AV.cells)/\0<d/\o.length*d<=16777216 then(if own then some (.own g.length 0 o.length,g++[.arr d 0 (o.map AV.cells) true])else some (.tsl (o.map AV.cells),g))else none|none=>none
 |.bslK own d,N=>match QN h N with
  |some (o,g)=>if dH d (o.map AV.cells)/\nN (o.map AV.cells)/\0<d/\o.length*d<=16777216 then(if own then some (.own g.length 0 o.length,g++[.arr d 0 (o.map AV.cells) true])else some (.tsl (o.map AV.cells),g))else none|none=>none
 |.app E d bytes,[s,x]=>match lZ h E x with
  |some A=>if dH d A then nH none d bytes h s A else none|none=>none
 |.appT E d bytes e,[s,x]=>match lZ h E x with
  |some A=>if dH d A then nH (some e) d bytes h s A else none|none=>none
 |.boxB t e,[a]=>zp8 t e h a|.allocB t e,[]=>some (.ptr (h.length+1) 0,h++[.arrT (some e) 1 0 [] true]++[.cellsT (some t) [.nilp,.own h.length 0 0]])|.ustr _,[.nilp,.int .i64 n]=>if n=0 then some (.str [],h)else none|.ustr e,[.eptr l F 0 0,.int .i64 n]=>match h[l]? with
  |some (.arrT tg 1 M y true)=>if tg=some e/\F=M/\0<y.length/\n=y.length/\y.length<=dJ then(qZ y).map fun J=>(.str J,h.set l .dead)else none|_=>none
 |.nxt,[.ptr l 0]=>match h[l]? with
  |some (.iter s D)=>if D<s.length then some (.tup [.bool true,.int .i64 D,.int .i32 (Utf8.decode ⟨s.toArray⟩ D).1],h.set l (.iter s (D+(Utf8.decode ⟨s.toArray⟩ D).2)))else some (.tup [.bool false],h)|_=>none
 |.rng,[.str s]=>some (.ptr h.length 0,h++[.iter s 0])|.rngm,[.map m]=>match h[m]? with
  |some (.map j)=>some (.ptr h.length 0,h++[.mit (some m) j.length [] j.length])|_=>none
 |.rngm,[.nilm]=>some (.ptr h.length 0,h++[.mit none 0 [] 0])|.call f,p=>dE G f p h|.callg f,p=>dE G f p h|.callv,.fn f O::p=>dE G f (p++O) h|.callv,.mth f v::p=>dE G f (v::p) h|.callv,.yld k::p=>G.y k p h|.slcf d U T V,x::J=>match qL U T V J with
  |some (l,r,m)=>GC d h x l r m|none=>none
 |.s2b,[.str s]=>if s.length<=dJ then some (.own h.length 0 s.length,h++[.arr 1 0 (s.map fun b=>[AV.int .u8 b.toNat]) true])else none|.cpy E d,[.own l F n,x]=>match lZ h E x with
  |some sr=>if dH d sr then(if sr=[]then some (.int .i64 0,h)else(match h[l]? with
   |some (.arrT tg W M y true)=>if F=M/\n<=y.length/\sr.length<=n/\W=d then some (.int .i64 sr.length,h.set l (.arrT tg d F (sr++y.drop sr.length) true))else none|_=>none))else none|none=>none
 |_,_=>none
def AO.quiet:AO->Bool
 |.alloc _|.box|.st _|.newnil _|.mkmap|.mapup _|.mapupA _|.ment _ _|.estore|.mksl _ _|.bsl _ _|.app _ _ _|.rng|.rngm|.nxt|.call _|.callv|.cpy _ _|.slcf _ _ _ _|.callg _|.appT _ _ _ _|.allocB _ _|.boxB _ _|.ustr _|.bslK _ _|.s2b|.pre _ _=>false|_=>true
def cG(G:Gam)(h:aA)(o:AO)(a:List AV):Option (AV×aA):=if o.quiet then(match bV h o a with
 |some v=>some (v,h)|none=>none)else bC G h o a
def fV(G:Gam)(h:aA)(o:AO)(a:List AV):Option (AV×aA):=match o with
 |.pre c o=>match vJ c h a with
  |some (b,d)=>cG G b o d|none=>none
 |o=>cG G h o a
def iD(c:Option Nat)(d:Bool)(a b:List (Nat×AV)):Option (AV×aA)->R
 |none=>.bad|some (v,h)=>match c with
  |none=>.ok a b h|some t=>if d then .ok a (upd t v b) h else .ok ((t,v)::a) b h
def rV:AV:=.tup []
def iN(G:Gam)(h:aA)(o:AO)(a:List AV):Option AV:=if o.quiet then bV h o a else match o with
 |.call f=>match G f with
  |some (.pure F)=>match cV h a with
   |some b=>match F b with
    |some r=>if scalar r then some r else if eZ a=[]then some r else none|none=>none
   |none=>none
  |_=>none
 |.bsl false c=>if eZ a=[]then(match cV h a with
   |some b=>if dH c (b.map AV.cells)/\nN (b.map AV.cells)/\0<c/\b.length*c<=16777216 then some (.tsl (b.map AV.cells))else none|none=>none)else none|.slcf c g e i=>match a with
  |x::d=>(match qL g e i d with
   |some (l,r,m)=>GD c x l r m|none=>none)|[]=>none
 |_=>none
def AO.loud:AO->Bool
 |.call _|.bsl false _|.slcf _ _ _ _=>false|o=>!o.quiet
def AO.turns(o:AO):Bool:=match o with
 |.pre _ _=>false|o=>o.loud
def dG(G:Gam)(c:Bool)(i:MI)(e:Nat->Option AV)(h:aA):Option (AV×aA):=let go:Option (AV×aA):=match iF e i.args with
  |some a=>if c&&!i.o.loud then(iN G h i.o a).map fun v=>(v,h)else fV G h i.o a|none=>none
 match i.g with
 |none=>go|some (t,d)=>match e t with
  |some (.bool b)=>if b=d then go else some (rV,h)|some (.tup [])=>some (rV,h)|_=>none
def EE(G:Gam)(c:Bool)(i:MI):R->R
 |.bad=>.bad|.ok a b h=>iD i.dst i.kept a b (dG G c i (aV a b) h)
def run(G:Gam)(a:Bool):List MI->R->R
 |[],r=>r|i::b,r=>run G a b (EE G a i r)
def aU(C:Cx)(l:Nat):Blk->Option Nat
 |.cellsT _ _=>C.bl l|.arrX _ _ _ a _ _=>match C.ar l a with
  |some (some r)=>some r.block|_=>none
 |.map _=>C.bl l|.iter _ _=>C.bl l|.lp _ _=>C.bl l|.mit _ _ _ _=>C.bl l|.dead=>none
structure Gv where
 fn:Nat->Option (List AV)tb:Nat->Option (List Value)
instance:CoeFun Gv (fun _=>Nat->Option (List AV)):=⟨Gv.fn⟩
def TbOK(c:Gv)(n:Nat)(w:World):Prop:=∀g a,c.tb g=some a->g<n/\∃T b,w.heap[g]?=some (.cells a.toArray T b)
theorem TbOK.mono{a:Gv}{n:Nat}{w d:World}(h:TbOK a n w)(j:∀k,k<n->k<w.heap.size->d.heap[k]?=w.heap[k]?):TbOK a n d:=fun g e i=>by
 obtain⟨b,T,f,c⟩:=h g e i;exact⟨b,T,f,(j g b (lL.1 c).1).trans c⟩
structure Base where
 n:Nat
 lo:Nat->Nat->Option Value
 gv:Gv
 rc:Nat->Option (Nat×Loop)cx:Cx
instance:Coe Base Nat:=⟨Base.n⟩
def Base.Up(B D:Base):Prop:=∃rc cx,D={B with rc:=rc,cx:=cx}/\(∀l x,B.rc l=some x->rc l=some x)/\B.cx.Le cx
theorem Base.Up.refl(B:Base):B.Up B:=⟨B.rc,B.cx,rfl,fun _ _ h=>h,.refl _⟩
theorem Base.Up.trans{B D E:Base}(h:B.Up D)(k:D.Up E):B.Up E:=by
 obtain⟨g,f,rfl,b,c⟩:=h;obtain⟨e,a,rfl,k1,k2⟩:=k;exact⟨e,a,rfl,fun l x d=>k1 l x (b l x d),c.trans k2⟩
def MX.code:MX->Option Code
 |.normal=>none|.exit id=>some (.exit id)|.ret=>some .ret
def xI(a:Bool)(x:MX):LoopState:=if a then .busy else if x.code.isNone then .ready else .done
def BN(tg:Option TypeId)(e:TypeId):Prop:=∀t,tg=some t->e=t
theorem zf8(e:TypeId):BN none e:=fun t h=>by cases h
def tagArr(tg:Option TypeId)(e:TypeId)(a:List (List AV)):Prop:=BN tg e/\(tg≠none->a≠[])
theorem zf7(e:TypeId)(a:List (List AV)):tagArr none e a:=⟨zf8 e,fun h=>absurd rfl h⟩
theorem tagArr.len{tg:Option TypeId}{e:TypeId}{a b:List (List AV)}(h:tagArr tg e a)(c:a.length<=b.length):tagArr tg e b:=⟨h.1,fun d e=>h.2 d (uL (by subst e;simpa using c))⟩
def mitB(C:Cx)(m b:Option Nat):Prop:=match m with
 |none=>b=none|some k=>∃a,C.bl k=some a/\b=some a
theorem mitB.mono{C D:Cx}{m a:Option Nat}(h:mitB C m a)(e:C.Le D):mitB D m a:=by cases m with
 |none=>exact h|some k=>obtain⟨b,c,d⟩:=h;exact⟨b,e.bl _ _ c,d⟩
def Cx.at(C:Cx)(a:Bool):Cx:=if a then C else Cx.pure C.im
theorem Cx.Le.at{C D:Cx}(h:C.Le D)(a:Bool):(C.at a).Le (D.at a):=by
 cases a;·exact h.frozen
 ·exact h
theorem Cx.at_all(C:Cx)(a:Bool):(C.at a).Le C:=by
 cases a;·exact C.frozen_le
 ·exact .refl _
def BlkOK(B:Base)(C:Cx)(w:World)(l:Nat):Blk->Prop
 |.cellsT tg G=>∃b a e,C.bl l=some b/\B<=b/\w.heap[b]?=some (.cells a e (0,0))/\(∀o,C.im b o=none)/\RelL C G a.toList/\BN tg e|.arrX A tg F q c t=>(C.ar l q=some none/\c=[])\/∃r a,C.ar l q=some (some r)/\B<=r.block/\c.length<=r.cap/\r.cap<=maxLen/\(∀E∈c,E.length=r.size)/\w.heap[r.block]?=some (.cells a r.elem r.fz)/\a.size=r.cap*r.size/\RelL (C.at A) c.flatten (a.toList.take (c.length*r.size))/\(∀u∈a.toList.take (c.length*r.size),u.oneCell'=true)/\(t=true->∀o,C.im r.block o=none)/\(t=false->∀j u,j<c.length*r.size->a[j]?=some u->C.im r.block j=some u)/\r.size=F/\tagArr tg r.elem c|.map g=>∃b d f,C.bl l=some b/\B<=b/\w.heap[b]?=some (.map d f)/\g.length=d.size/\(∀(i:Nat)k v m,g[i]?=some (k,v)->d[i]?=some m->Rel (Cx.pure C.im) k m.key/\Rel (Cx.pure C.im) v m.val)/\f=d.size/\∀(i:Nat)m,d[i]?=some m->m.born=i|.iter s D=>∃b,C.bl l=some b/\B<=b/\w.heap[b]?=some (.stringIter ⟨s.toArray⟩ D)|.lp y x=>∃b r,C.bl l=some b/\B<=b/\B.rc l=some (b,r)/\w.heap[b]?=some (.loop {r with state:=xI y x,pending:=x.code})|.mit m n seen z=>∃b p,C.bl l=some b/\B<=b/\w.heap[b]?=some (.mapIter p n seen.toArray z)/\mitB C m p|.dead=>True
structure Inv(B:Base)(C:Cx)(h:aA)(w:World):Prop where
 im:∀b o u,C.im b o=some u->w.cell? ⟨b,o,none⟩=some u
 one:∀b o u,C.im b o=some u->u.oneCell'=true
 ok:∀(l:Nat)blk,h[l]?=some blk->BlkOK B C w l blk
 inj:∀(l l':Nat)blk blk' b,h[l]?=some blk->h[l']?=some blk'->aU C l blk=some b->aU C l' blk'=some b->l=l'
 fr:∀l,h.length<=l->C.bl l=none/\∀v,C.ar l v=none
 fv:∀(l:Nat)ne tg sz ver rows wr,h[l]?=some (.arrX ne tg sz ver rows wr)->∀v,ver<v->C.ar l v=none
 hB:B<=w.heap.size
 low:∀b o u,b<B.n->C.im b o=some u->B.lo b o=some u
 gl:∀g r,B.gv g=some r->Rel (Cx.pure C.im) (.fptr r 0) (.pointer (some ⟨g,0,none⟩))tb:TbOK B.gv B.n w
 rcl:∀l x,B.rc l=some x->l<h.length
 cle:B.cx.Le C
theorem rA{w:World}{b o:Nat}{u:Value}(h:w.cell? ⟨b,o,none⟩=some u):b<w.heap.size:=World.block_lt_of_cell? w _ h
theorem fM{w:World}{b:Nat}{o:Obj}(h:w.heap[b]?=some o):b<w.heap.size:=(lL.1 h).1
theorem cell_of_heap{w:World}{b:Nat}{a:Array Value}{e:TypeId}{f:Nat×Nat}(h:w.heap[b]?=some (.cells a e f))(o:Nat):w.cell? ⟨b,o,none⟩=a[o]?:=by simp[World.cell?,h]
theorem Inv.grow{B:Base}{C:Cx}{h:aA}{w q:World}(a:Inv B C h w)(j:Below w.heap.size w q):Inv B C h q:=by
 have y:∀b o u,w.cell? ⟨b,o,none⟩=some u->q.cell? ⟨b,o,none⟩=some u:=fun b o u i=>(j.cell (p:=⟨b,o,none⟩) (rA i)).trans i;have g:∀b o,w.heap[b]?=some o->q.heap[b]?=some o:=fun b o i=>(j.block b (fM i)).trans i;refine⟨fun b o u x=>y b o u (a.im b o u x),a.one,fun l v x=>?_,a.inj,a.fr,a.fv,oJ a.hB j.size,a.low,a.gl,a.tb.mono (fun k _ E=>j.block k E),a.rcl,a.cle⟩;have k:=a.ok l v x;cases v with
 |cellsT tg Q=>
  obtain⟨b,t,e,c,d,f,h4⟩:=k;exact⟨b,t,e,c,d,g _ _ f,h4⟩|arrX K tg N O M S=>
  rcases k with k|⟨r,t,c,d,f,h4,h5,A,D⟩;·exact .inl k
  ·exact .inr ⟨r,t,c,d,f,h4,h5,g _ _ A,D⟩|map I=>
  obtain⟨b,G,z,c,d,f,h4⟩:=k;exact⟨b,G,z,c,d,g _ _ f,h4⟩|iter s L=>
  obtain⟨b,c,d,f⟩:=k;exact⟨b,c,d,g _ _ f⟩|lp H x=>
  obtain⟨b,r,c,d,f,h4⟩:=k;exact⟨b,r,c,d,f,g _ _ h4⟩|mit m n seen J=>
  obtain⟨b,F,c,d,f,h4⟩:=k;exact⟨b,F,c,d,g _ _ f,h4⟩|dead=>trivial
theorem KJ{n:Nat}:∀(f:List (List AV)),(∀a∈f,a.length=n)->∀(i j:Nat)a c,f[i]?=some a->a[j]?=some c->f.flatten[i*n+j]?=some c
 |[],_,i,j,a,c,b,_=>by simp at b|r::k,e,0,j,a,c,b,d=>by
  simp at b;subst b;rw[oF,aX (by simpa using(aF.1 d).1)];simpa using d|r::k,e,i+1,j,a,c,b,d=>by
  have g:r.length=n:=e r (by simp);have m:=KJ k (fun x l=>e x (by simp[l])) i j a c (by simpa using b) d;rw[oF,dY (by rw[g,gL];omega),g];rw[show(i+1)*n+j-n=i*n+j by rw[gL];omega];exact m
theorem lR{n:Nat}:∀(a:List (List AV)),(∀d∈a,d.length=n)->a.flatten.length=a.length*n
 |[],_=>by simp|r::e,b=>by rw[oF,iS,b r (by simp),lR e (fun x c=>b x (by simp[c])),jA,gL];omega
theorem zO1{b:Nat}{a:List AV}{v:AV}(h:aD true b a=some v):a.length=b/\v=.agg a:=by
 simp only[aD,aM]at h;split at h;·injection h with h;exact⟨‹_›,h.symm⟩
 ·cases h
theorem zO2{b:Nat}{a:List AV}{v:AV}(h:aD false b a=some v):a=[v]:=by
 simp only[aD,bM,bH]at h;split at h;·cases h;rfl
 ·cases h
def mkC(b:Bool)(a:List Value):Value:=if b then .agg a.toArray else a.headD undef
theorem LG{C:Cx}{a:Bool}{l:Nat}{b:List AV}{e:List Value}{v:AV}(g:aD a l b=some v)(d:RelL C b e):Rel C v (mkC a e):=by cases a with
 |true=>
  obtain⟨f,rfl⟩:=zO1 g;exact .agg b e.toArray (by simpa using d.1) (fun i c u j k=>d.2 i c u j (by simpa using k))|false=>
  have:=zO2 g;subst this;obtain⟨u,n,rfl,f,m⟩:=d.inv_cons;exact f
theorem qI{P:Program}{t:TypeId}{b:Bool}(h:(P.underlying t).map (fun|.struct _=>true|.array _ _=>true|_=>false)=some b)(w:World):(isAgg t).run P w=.ok b w:=by cases a:P.underlying t with
 |none=>simp[a]at h|some d=>cases d<;>simp[a]at h<;>subst h<;>simp[isAgg,run_underlying a]
def lJ(P:Program)(t:TypeId):Option Bool:=(P.underlying t).map (fun|.struct _=>true|.array _ _=>true|_=>false)
def dU(P:Program)(t:TypeId):Option Nat:=(P.info? t).map (·.size)
theorem jC{P:Program}{t:TypeId}{n:Nat}(h:dU P t=some n)(w:World):(sizeOf t).run P w=.ok n w:=by
 unfold dU at h;cases a:P.info? t with
 |none=>simp[a]at h|some i=>simp[a]at h;subst h;simp[sizeOf,typeInfo,a]
theorem zd5{P:Program}{t:TypeId}{c:Bool}{i:Nat}(k:lJ P t=some c)(l:dU P t=some i)(a:Addr)(b:List Value)(d:if c then b.length=i else b.length=1)(w:World)(g:∀(j:Nat)u,b[j]?=some u->w.cell? (a.add j)=some u):(loadVar t a).run P w=.ok (mkC c b) w:=by
 have f:=qI k w;cases c with
 |true=>
  simp only[aM]at d;have:=run_loadCells_list (P:=P) w a b g;rw[d]at this;simp[loadVar,f,jC l,this,mkC]|false=>
  simp only[bM,bH]at d;match b,d with
  |[u],_=>
   have e:=g 0 u rfl;simp[Addr.add]at e;simp[loadVar,f,e,mkC]
theorem JP{C:Cx}{c:List AV}{d:List Value}(h:RelL C c d)(a b:Nat):RelL C (cut c a b) ((d.drop a).take b):=(h.drop a).take b
theorem LF{a:Bool}{c:Nat}{b:List AV}{v:AV}(h:aD a c b=some v):if a then b.length=c else b.length=1:=by cases a with
 |true=>simpa using(zO1 h).1|false=>have:=zO2 h;subst this;simp
theorem zS{us:List Value}{off size j:Nat}{u:Value}(h:((us.drop off).take size)[j]?=some u):us[off+j]?=some u:=by
 rw[fS]at h;split at h;·rwa[oH]at h
 ·cases h
theorem zX0{C:Cx}{b:List AV}{e:Nat->Value}(f:∀(j:Nat)c,b[j]?=some c->Rel C c (e j)):RelL C b ((List.range b.length).map e):=by
 refine⟨by simp,fun i c v d a=>?_⟩;rw[pM,IP (aF.1 d).1]at a;simp at a;subst a;exact f i c d
theorem zL2{P:Program}{B:Base}{C:Cx}{h:aA}{w:World}(I:Inv B C h w){t:TypeId}{N:Bool}{A:Nat}(H:lJ P t=some N)(L:dU P t=some A){a v:AV}{x:Value}(s:Rel C a x)(d:aB A N h a=some v):∃u,Rel C v u/\∀g,Below w.heap.size w g->(Instr.loadAt t x).run P g=.ok u g:=by cases a with
  |ptr l e=>
    simp only[aB]at d;split at d
    ·rename_i vs M;cases s with|ptr _ _ b D=>
        obtain⟨b',O,a3,f,X,G,h4,h5,_⟩:=I.ok l _ M;rw[D]at f;cases f;have m:=JP h5 e A;refine⟨_,LG d m,fun g y=>?_⟩;have k:=LF d;rw[m.1]at k;have:=zd5 H L ⟨b,e,none⟩ _ k g (fun j u q=>by
          rw[Addr.add_lit,cell_of_heap ((y.block b (fM G)).trans G)];simpa using zS q);simpa[Instr.loadAt,Instr.sureAddr]using this
    ·cases d|fptr n e=>
    simp only[aB]at d;cases s with|fptr _ _ b o us E s=>
      have m:=JP ((zX0 s).mono C.frozen_le) e A;refine⟨_,LG d m,fun g y=>?_⟩;have k:=LF d;rw[m.1]at k;have:=zd5 H L ⟨b,o+e,none⟩ _ k g (fun j u q=>by
        have F:=zS q;have V:e+j<n.length:=by have:=(aF.1 F).1;simpa using this
        rw[pM,IP V]at F;simp at F;subst F;rw[Addr.add_lit];have T:=I.im _ _ _ (E (e+j) n[e+j] (by simp[V]));rw[Nat.add_assoc];exact(y.cell (p:=⟨b,o+(e+j),none⟩) (rA T)).trans T);simpa[Instr.loadAt,Instr.sureAddr]using this
  |eptr l b1 i e=>
    simp only[aB]at d;split at d
    · rename_i W tg sz b2 z wr M;split at d
      · rename_i hv;subst hv;split at d
        ·rename_i n K;cases s with|eptr _ _ _ _ r D=>
            have Z:=I.ok l _ M;rcases Z with⟨f,_⟩|⟨r',O,f,X,G,h4,h5,Q,h7,S,_⟩;·rw[D]at f;cases f
            · rw[D]at f;injection f with f;cases f;have U:i<z.length:=(aF.1 K).1;have a1:n.length=r.size:=h5 n (gJ K);have Y:=lR z h5;have a2:RelL (C.at W) n ((O.toList.drop (i*r.size)).take r.size):=by
                refine⟨?_,fun j c u E hu=>?_⟩
                ·have:=S.1;simp[Y]at this⊢;have J:(i+1)*r.size<=z.length*r.size:=kH _ U;rw[gL]at J;omega
                · have q:j<r.size:=by rw[<-a1];exact(aF.1 E).1
                  have J:(i+1)*r.size<=z.length*r.size:=kH _ U;rw[gL]at J;refine S.2 (i*r.size+j) c u (KJ z h5 i j n c K E) ?_;rw[fS,if_pos (by omega)];exact zS hu
              have m:=JP (a2.mono (C.at_all W)) e A;refine⟨_,LG d m,fun g y=>?_⟩;have k:=LF d;rw[m.1]at k;have:=zd5 H L ⟨r.block,i*r.size+e,none⟩ _ k g (fun j u q=>by
                rw[Addr.add_lit,cell_of_heap ((y.block r.block (fM Q)).trans Q)];have:=zS (zS q);simpa[Nat.add_assoc]using this);simpa[Instr.loadAt,Instr.sureAddr]using this
        ·cases d
      ·cases d
    ·cases d|_=>simp[aB]at d
def LM:Value->Option AV
 |.bool b=>some (.bool b)|.int k n=>some (.int k n)|.string s=>some (.str s.data.toList)|.pointer none=>some .nilp|.slice none 0 0=>some .nils|.map none=>some .nilm|.nilFunc=>some .nilf|.nilIface=>some .nili|_=>none
def tH:List Value->Option (List AV)
 |[]=>some []|v::c=>match LM v,tH c with
  |some a,some b=>some (a::b)|_,_=>none
def ofValue:Value->Option AV
 |.agg a=>(tH a.toList).map .agg|v=>LM v
theorem zP3{C:Cx}{v:Value}{a:AV}(h:LM v=some a):Rel C a v:=by
 unfold LM at h;split at h<;>(first|cases h|skip)<;>constructor
theorem ZW{C:Cx}:∀{c:List Value}{b:List AV},tH c=some b->RelL C b c
 |[],b,h=>by simp[tH]at h;subst h;exact .nil|v::c,b,h=>by
  simp only[tH]at h;split at h
  ·rename_i a f d e;cases h;exact .cons (zP3 d) (ZW e)
  ·cases h
theorem zP4{C:Cx}{v:Value}{a:AV}(h:ofValue v=some a):Rel C a v:=by
 unfold ofValue at h;split at h
 ·rename_i d;cases b:tH d.toList with
  |none=>simp[b]at h|some e=>
   simp[b]at h;subst h;have:=ZW (C:=C) b;exact .agg e d (by simpa using this.1) (fun i c u f g=>this.2 i c u f (by simpa using g))
 ·exact zP3 h
def kC(P:Program)(t:TypeId):Option (List AV):=((P.info? t).bind (·.zero)).bind fun z=>tH z.cells.toList
def sB(P:Program)(t:TypeId):Option AV:=((P.info? t).bind (·.zero)).bind ofValue
def pW(P:Program)(c:TypeId->Option (List EK)):List Field->Nat->Option (List EK)
 |[],_=>some []|f::d,b=>if f.name= "_"\/f.offset≠b then none else match c f.type with
  |some a=>if dU P f.type=some a.length then(pW P c d (b+a.length)).map (a++·)else none|none=>none
def gN(P:Program):Nat->TypeId->Option (List EK)
 |0,_=>none|d+1,t=>match P.underlying t with
  |some .bool=>some [.b]|some (.int _)=>some [.i]|some .string=>some [.s]|some (.struct a)=>if P.stoodInHeld t then none else pW P (gN P d) a.toList 0|_=>none
def sU(a:Gv):Operand->Option At
 |.tmp t=>some (.t t)|.const v=>(ofValue v).map .c|.global g=>(a g).map fun r=>.c (.fptr r 0)|.func f=>some (.c (.fn f []))
def JL(b:Gv):List Operand->Option (List At)
 |[]=>some []|x::d=>match sU b x,JL b d with
  |some a,some c=>some (a::c)|_,_=>none
def zb3(P:Program)(t:TypeId):Option (Nat->Option (Nat×Nat)):=match P.underlying t with
 |some (.array _ e)=>(P.info? e).map fun a=>fun i=>some (i*a.size,a.size)|some (.struct b)=>(b.toList.mapM (fun f=>(P.info? f.type).map fun i=>(f.offset,i.size))).map fun c=>fun i=>c.toArray[i]?|_=>none
def placesOf(a:Nat->Option (Nat×Nat)):List (Nat×Operand)->Option (List (Nat×Nat))
 |[]=>some []|(i,_)::r=>match a i,placesOf a r with
  |some q,some b=>some (q::b)|_,_=>none
def iL(P:Program):Op->Option (AO×List Operand)
 |.move x=>some (.mv,[x])|.assign x=>some (.mv,[x])|.pick c a b=>some (.pick,[c,a,b])|.binOp l t x y _=>match P.underlying t with
  |some .bool=>(match l with
   |.eql=>some (.eqB false,[x,y])|.neq=>some (.eqB true,[x,y])|_=>none)|some (.int _)=>some (.bin l,[x,y])|some .string=>some (.bin l,[x,y])|some (.struct _)=>if P.eqGuardType P.depth t=false then(match gN P 100 t with
   |some u=>if dU P t=some u.length then(match l with
    |.eql=>some (.eqA false u,[x,y])|.neq=>some (.eqA true u,[x,y])|_=>none)else none|none=>none)else none|_=>none
 |.unOp l _ x=>some (.un l,[x])|.convert s d x=>match P.underlying s,P.underlying d with
  |some (.int _),some (.int k)=>some (.conv k,[x])|some .string,some .string=>some (.strid,[x])|_,_=>none
 |.fieldAddr s x f=>match P.underlying s with
  |some (.struct r)=>(match r[f]? with
   |some j=>(match dU P j.type with
    |some n=>if n=0 then none else some (.fadr j.offset,[x])|none=>none)|none=>none)|_=>none
 |.field s x f=>match P.underlying s with
  |some (.struct r)=>(match r[f]? with
   |some j=>(match dU P j.type,lJ P j.type with
    |some n,some a=>some (.fld j.offset n a,[x])|_,_=>none)|none=>none)|_=>none
 |.indexAddr t x i=>match P.underlying t with
  |some (.slice e)=>(match dU P e with
   |some n=>some (.iadr n,[x,i])|none=>none)|some (.array v e)=>(match dU P e with
   |some n=>some (.aadr v n,[x,i])|none=>none)|_=>none
 |.index t x i=>match P.underlying t with
  |some .string=>some (.istr,[x,i])|some (.array v e)=>(match dU P e,lJ P e with
   |some n,some a=>some (.iarr v n a,[x,i])|_,_=>none)|_=>none
 |.load t a=>match dU P t,lJ P t with
  |some n,some g=>some (.ld n g,[a])|_,_=>none
 |.extract x i=>some (.ext i,[x])|.lookup t m k A=>match P.underlying t with
  |some (.map G e)=>(match P.underlying G,sB P e with
   |some .string,some z=>some (.look .s A z,[m,k])|some (.int _),some z=>some (.look .i A z,[m,k])|some .bool,some z=>some (.look .b A z,[m,k])|_,_=>none)|_=>none
 |.makeFunc (.func f) E D=>if E.size=0 then some (.mkfn f,D.toList)else if D.size=0 then(match E.toList with
  |[x]=>some (.mkmth f,[x])|_=>none)else none|.makeInterface t x=>match P.underlying t with
  |some (.interface _)=>none|some _=>some (.mkif t,[x])|none=>none
 |.slice t x p o q=>match P.underlying t with
  |some .string=>some (.slc none p.isSome o.isSome q.isSome,x::(p.toList++o.toList++q.toList))|some (.slice e)=>(match dU P e with
   |some n=>some (.slc (some n) p.isSome o.isSome q.isSome,x::(p.toList++o.toList++q.toList))|none=>none)|_=>none
 |.call {callee:=.builtin .len,args,argTypes}=>match argTypes.toList,args.toList with
  |[t],[x]=>(match P.underlying t with
   |some .string=>some (.len 0,[x])|some (.slice _)=>some (.len 1,[x])|some (.map _ _)=>some (.len 2,[x])|_=>none)|_,_=>none
 |.call {callee:=.builtin .min,args,..}=>match args.toList with
  |[x,y]=>some (.min,[x,y])|_=>none
 |.call {callee:=.builtin .max,args,..}=>match args.toList with
  |[x,y]=>some (.max,[x,y])|_=>none
 |.build t F=>match kC P t,zb3 P t with
  |some z,some H=>(match placesOf H F.toList with
   |some I=>some (.bld z I,F.toList.map (·.2))|none=>none)|_,_=>none
 |.nilCheck x=>some (.nilck,[x])|_=>none
section
variable{P:Program}{B:Base}{C:Cx}{h:aA}{w:World}
theorem zX7(c:BinOp)(t:TypeId)(x y:Operand)(a b:Value)(d:a.oneCell'=true/\a≠.nilIface)(w:World):(eqGuard c t x y a b).run P w=.ok () w:=by cases c<;>cases a<;>simp_all[eqGuard,Value.oneCell']
theorem eD{s:List UInt8}{x:Value}(h:Rel C (.str s) x):x=.string ⟨s.toArray⟩:=by cases h;rfl
theorem dK{k:IntKind}{n:Int}{x:Value}(h:Rel C (.int k n) x):x=.int k n:=by cases h;rfl
theorem jG{b:Bool}{x:Value}(h:Rel C (.bool b) x):x=.bool b:=by cases h;rfl
theorem sJ{b:List AV}{x:Value}(h:Rel C (.agg b) x):∃a:Array Value,x=.agg a/\RelL C b a.toList:=by cases h with|agg _ a e h=>exact⟨a,rfl,by simpa using e,fun i c u d f=>h i c u d (by simpa using f)⟩
theorem UN(s:List UInt8):(ByteArray.mk s.toArray).toList=s:=by simp
theorem yU8{c:BinOp}{k:IntKind}{a b:Int}{v:AV}(d:c≠.shl/\c≠.shr)(h:jJ c k a b=some v)(t:TypeId):∃u,Rel C v u/\∀w,(binOp c t (.int k a) (.int k b)).run P w=.ok u w:=by cases c<;>simp only[jJ]at h<;>(first|cases h|skip)<;>first
    |exact⟨_,.int _ _,fun w=>rfl⟩|(refine⟨_,.bool _,fun w=>?_⟩;simp[binOp,Op.intCmp];done)|(refine⟨_,.int _ _,fun w=>?_⟩;simp[binOp,Op.intArith,Op.intBits];done)
    | (split at h;·cases h
       ·cases h;refine⟨_,.int _ _,fun w=>?_⟩;simp[binOp,Op.intDiv, *])|(exact absurd rfl d.1)|(exact absurd rfl d.2)
theorem xw2{c:BinOp}{a b:List UInt8}{v:AV}(h:eC c a b=some v)(t:TypeId):∃u,Rel C v u/\∀w,(binOp c t (.string ⟨a.toArray⟩) (.string ⟨b.toArray⟩)).run P w=.ok u w:=by
  have f:∀x y:ByteArray,(BinOp.add=.add):=fun _ _=>rfl;cases c<;>simp only[eC]at h<;>(first|cases h|skip);case add=>
    split at h
    · rename_i d;cases h;refine⟨_,.str _,fun w=>?_⟩;have e:¬(9223372036854775807:Int)<((a.length:Int)+(b.length:Int)):=by unfold rZ at d;omega
      simp[binOp,Op.stringOp,ByteArray.size,IntKind.max,IntKind.signed,IntKind.bits,e];exact ByteArray.ext (by simp)
    ·cases h
  all_goals
    refine⟨_,.bool _,fun w=>?_⟩;simp[binOp,Op.stringOp]
theorem yq4{c:BinOp}{a b v:AV}{x y:Value}(j:Rel C a x)(l:Rel C b y)(h:bY c a b=some v)(t:TypeId)(f g:Operand):∃u,Rel C v u/\∀w,(do eqGuard c t f g x y;binOp c t x y:Sem Value).run P w=.ok u w:=by
  have fin:∀(i:x.oneCell'=true/\x≠.nilIface),(∃u,Rel C v u/\∀w,(binOp c t x y).run P w=.ok u w)->∃u,Rel C v u/\∀w,(do eqGuard c t f g x y;binOp c t x y:Sem Value).run P w=.ok u w:=by
    rintro i⟨u,o,p⟩;exact⟨u,o,fun w=>by simp[zX7 c t f g x y i w,p w]⟩
  unfold bY at h;split at h
  · rename_i k m s n;have:=dK j;subst this;have:=dK l;subst this;refine fin ⟨rfl,by simp⟩ ?_;split at h
    · rename_i d;split at h;·cases h
      ·rename_i q;cases h;refine⟨_,.int _ _,fun w=>?_⟩;rcases d with rfl|rfl<;>simp[binOp,Op.shift,q]
    · rename_i d;split at h
      ·rename_i r;subst r;exact yU8 ⟨fun e=>d (.inl e),fun e=>d (.inr e)⟩ h t
      ·cases h
  ·rename_i m n;have:=eD j;subst this;have:=eD l;subst this;exact fin ⟨rfl,by simp⟩ (xw2 h t)
  ·cases h
theorem zv1:∀(e l:List EK)(f g i j:List AV)(b:Bool),f.length=e.length->g.length=e.length->eV (e++l) (f++i) (g++j)=some b->∃m,eV e f g=some m/\(m=false->b=false)/\(m=true->eV l i j=some b)
  |[],l,[],[],i,j,b,_,_,h=>⟨true,rfl,by simp,fun _=>h⟩|[],_,_::_,_,_,_,_,c,_,_=>by simp at c|[],_,_,_::_,_,_,_,_,c,_=>by simp at c|_::_,_,[],_,_,_,_,c,_,_=>by simp at c|_::_,_,_,[],_,_,_,_,c,_=>by simp at c|k::e,l,a::f,p::g,i,j,b,c,r,h=>by
    have o:=zv1 e l f g i j b (by simpa using c) (by simpa using r);simp only[qW]at h;cases k<;>cases a<;>cases p<;>simp only[eV]at h⊢<;>(first|cases h|skip);case i.int.int k n s t=>
      split at h
      · rename_i q;simp only[if_pos q];split at h;·rename_i d;simp only[if_pos d];exact o h
        ·rename_i d;simp only[if_neg d];cases h;exact⟨false,rfl,fun _=>rfl,by simp⟩
      ·cases h
    all_goals
      split at h;·rename_i d;simp only[if_pos d];exact o h
      ·rename_i d;simp only[if_neg d];cases h;exact⟨false,rfl,fun _=>rfl,by simp⟩
theorem XN{k:EK}{a c:AV}{b:Bool}(h:eV [k] [a] [c]=some b):(∃q m n,k=.i/\a=.int q m/\c=.int q n/\b=(m==n))\/(∃m n,k=.s/\a=.str m/\c=.str n/\b=(m==n))\/(∃m n,k=.b/\a=.bool m/\c=.bool n/\b=(m==n)):=by
 cases k<;>cases a<;>cases c<;>simp only[eV]at h<;>(first|cases h|skip);case i.int.int k n e f=>
  split at h
  ·rename_i d;subst d;refine .inl ⟨_,_,_,rfl,rfl,rfl,?_⟩;split at h<;>injection h with h<;>subst h<;>simp[*]
  ·cases h
 case s.str.str x y=>
  refine .inr (.inl ⟨_,_,rfl,rfl,rfl,?_⟩);split at h<;>injection h with h<;>subst h<;>simp[*]
 case b.bool.bool x y=>
  refine .inr (.inr ⟨_,_,rfl,rfl,rfl,?_⟩);split at h<;>injection h with h<;>subst h<;>simp[*]
theorem QF(c:Array Value)(a b:Nat):(c.extract a b).toList=(c.toList.drop a).take (b-a):=by simp[List.take_drop]
def EqAt(P:Program)(C:Cx)(d:Nat):Prop:=∀(t:TypeId)(e:List EK)(f:Nat)(j l:Array Value)(g i:List AV)(b:Bool),gN P d t=some e->dU P t=some e.length->RelL C g ((j.toList.drop f).take e.length)->RelL C i ((l.toList.drop f).take e.length)->g.length=e.length->i.length=e.length->eV e g i=some b->∀k w,(do let a<-part t j f;let c<-part t l f;Op.equalIn (k+d) t a c:Sem Bool).run P w=.ok b w
def yj3(P:Program)(C:Cx)(d:Nat):Prop:=∀(g:List Field)(f:Nat)(a:List EK)(i j:Array Value)(c e:List AV)(b:Bool),pW P (gN P d) g f=some a->RelL C c ((i.toList.drop f).take a.length)->RelL C e ((j.toList.drop f).take a.length)->c.length=a.length->e.length=a.length->eV a c e=some b->∀k w,(Op.eqFields (k+d) i j g).run P w=.ok b w
theorem yd0(l:List Value)(a m n:Nat):((l.drop a).take (m+n)).take m=(l.drop a).take m:=by rw[zK];congr 1;omega
theorem zu3(l:List Value)(a m n:Nat):((l.drop a).take (m+n)).drop m=(l.drop (a+m)).take n:=by rw[List.drop_take,List.drop_drop];congr 1;omega
theorem zv3{d:Nat}(h:EqAt P C d):yj3 P C d:=by
  intro t;induction t with
  |nil=>
    intro g H r s j l b e p q n o m k w;simp[pW]at e;subst e;simp at n o;subst n o;simp[eV]at m;subst m;simp[Op.eqFields]|cons f t G=>
    intro g H r s j l b e p q n o m k w;simp only[pW]at e;split at e;·cases e
    · rename_i u;simp only[not_or,Decidable.not_not]at u;split at e
      · rename_i k1 D;split at e
        ·rename_i F;cases v:pW P (gN P d) t (g+k1.length)with
          |none=>simp[v]at e|some k2=>
            simp[v]at e;subst e;have I:j=j.take k1.length++j.drop k1.length:=(sO _ _).symm;have J:l=l.take k1.length++l.drop k1.length:=(sO _ _).symm;rw[I,J]at m;simp only[iS]at n o p q;obtain⟨x,y,z,A⟩:=zv1 k1 k2 _ _ _ _ b (by simp;omega) (by simp;omega) m;have i:=h f.type k1 g r s (j.take k1.length) (l.take k1.length) x D F (by rw[<-yd0 _ g k1.length k2.length];exact p.take _) (by rw[<-yd0 _ g k1.length k2.length];exact q.take _) (by simp;omega) (by simp;omega) y k w;have E:=u.2;simp only[Sem.run_bind]at i;simp only[Op.eqFields,ne_eq,u.1,not_false_eq_true,aM,E,Sem.run_bind];generalize(part f.type r g).run P w=K at i⊢;cases K with
            |halt _ _=>simp[Result.andThen]at i|ok a M=>
              simp only[Result.andThen_ok]at i⊢;generalize(part f.type s g).run P M=L at i⊢;cases L with
              |halt _ _=>simp[Result.andThen]at i|ok c N=>
                simp only[Result.andThen_ok]at i⊢;rw[i];cases x with
                |false=>simp[z rfl]|true=>
                  simp only[Result.andThen_ok,uK,bM,bH];exact G (g+k1.length) k2 r s _ _ b v (by rw[<-zu3 _ g k1.length k2.length];exact p.drop _) (by rw[<-zu3 _ g k1.length k2.length];exact q.drop _) (by simp;omega) (by simp;omega) (A rfl) k w
        ·cases e
      ·cases e
theorem zv0:∀d,EqAt P C d
  |0=>fun t o j s u v A b h=>by simp[gN]at h|d+1=>by
    intro t o j s u v A b h Q g i D E G k w;have z:∀(J:o.length=1)(r:lJ P t=some false)(H:∀(a c:AV)(x y:Value),Rel C a x->Rel C c y->eV o [a] [c]=some b->(Op.equalIn (k+d+1) t x y).run P w=.ok b w),(do let a<-part t s j;let c<-part t u j;Op.equalIn (k+(d+1)) t a c:Sem Bool).run P w=.ok b w:=by
      intro J r H;rw[J]at D E g i;match v,A,D,E with
      |[a],[c],_,_=>
        obtain⟨x,W,L,U,_⟩:=g.inv_cons;obtain⟨y,X,M,V,_⟩:=i.inv_cons;have N:s[j]?=some x:=by have:=congrArg (fun l:List Value=>l[0]?) L;simpa[fS,oH]using this
        have O:u[j]?=some y:=by have:=congrArg (fun l:List Value=>l[0]?) M;simpa[fS,oH]using this
        simp[part,qI r,N,O];exact H a c x y U V G
    simp only[gN]at h;cases f:P.underlying t with
    |none=>simp[f]at h|some K=>
      cases K<;>simp only[f]at h<;>(first|cases h|skip);case some.bool.refl=>
        refine z rfl (by simp[lJ,f]) fun a c x y g i p=>?_;rcases XN p with⟨q,m,n,e,_⟩|⟨m,n,e,_⟩|⟨m,n,_,rfl,rfl,rfl⟩;·cases e
        ·cases e
        ·rw[jG g,jG i,run_equalIn_bool' w (k+d) t _ _ f]
      case some.int.refl q=>
        refine z rfl (by simp[lJ,f]) fun a c x y g i p=>?_;rcases XN p with⟨q,m,n,_,rfl,rfl,rfl⟩|⟨m,n,e,_⟩|⟨m,n,e,_⟩;·rw[dK g,dK i,run_equalIn_int w (k+d) t _ _ _ _ f]
        ·cases e
        ·cases e
      case some.string.refl=>
        refine z rfl (by simp[lJ,f]) fun a c x y g i p=>?_;rcases XN p with⟨q,m,n,e,_⟩|⟨m,n,_,rfl,rfl,rfl⟩|⟨m,n,e,_⟩;·cases e
        ·rw[eD g,eD i,run_equalIn_string w (k+d) t _ _ f,UN,UN]
        ·cases e
      case some.struct F=>
        split at h;·cases h
        · rename_i S;have r:lJ P t=some true:=by simp[lJ,f]
          have I:P.fieldsOf t=F:=by simp[Program.fieldsOf,f]
          have T:P.underlying t=some (.struct (P.fieldsOf t)):=by rw[I];exact f
          have:=run_equalIn_struct (P:=P) w (k+d) t (s.extract j (j+o.length)) (u.extract j (j+o.length)) T (by simpa using S);rw[I]at this;simp only[part,Sem.run_bind,qI r,Result.andThen_ok,aM,jC Q,Sem.run_pure];rw[show k+(d+1)=k+d+1 by omega,this];refine zv3 (zv0 d) F.toList 0 o _ _ v A b h ?_ ?_ D E G k w
          ·rw[QF,wK,zK];rw[Nat.add_sub_cancel_left,Nat.min_self];exact g
          ·rw[QF,wK,zK];rw[Nat.add_sub_cancel_left,Nat.min_self];exact i
end
section
variable{P:Program}{B:Base}{C:Cx}{h:aA}{w:World}
theorem yT2{t e:TypeId}{J:Nat}(T:Inv B C h w)(V:P.underlying t=some (.slice e))(U:dU P e=some J){a i v:AV}{x y:Value}(N:Rel C a x)(O:Rel C i y)(d:bN J h a i=some v):∃u,Rel C v u/\∀w,(Instr.indexAt t x y).run P w=.ok u w:=by
  have Q:∀(b o s p:Nat)(k:IntKind)(n:Int),0<=n->n<s->∀w,(Instr.indexAt t (.slice (some ⟨b,o,none⟩) s p) (.int k n)).run P w=.ok (.pointer (some ⟨b,o+n.toNat*J,none⟩)) w:=by
    intro b o s p k n F q w;simp[Instr.indexAt,asIntOf,run_underlying V,F,q,jC U,Addr.add_lit]
  have frozen:∀(g:List (List AV))(k:IntKind)(n:Int)(b o s p D:Nat)(z:Nat->Nat->Value),s=g.length->(∀(i:Nat)f,g[i]?=some f->f.length=D)->(∀(i:Nat)f(j:Nat)c,g[i]?=some f->f[j]?=some c->C.im b (o+i*D+j)=some (z i j))->(∀(i:Nat)f(j:Nat)c,g[i]?=some f->f[j]?=some c->Rel (Cx.pure C.im) c (z i j))->(if 0<=n then(match g[n.toNat]? with
        |some f=>if f.length=J then some (AV.fptr f 0)else none|none=>none)else none)=some v->∃u,Rel C v u/\∀w,(Instr.indexAt t (.slice (some ⟨b,o,none⟩) s p) (.int k n)).run P w=.ok u w:=by
    intro g k n b o s p D z Z q G H A;split at A
    · rename_i F;split at A
      · rename_i f E;split at A
        ·rename_i M;cases A;have a1:n.toNat<g.length:=(aF.1 E).1;have L:=q _ _ E;rw[M]at L;subst L;exact⟨_,.fptr f 0 b (o+n.toNat*J) (z n.toNat) (fun j c I=>G _ _ _ _ E I) (fun j c I=>H _ _ _ _ E I),fun w=>by rw[Nat.add_zero];exact Q b o s p k n F (by omega) w⟩
        ·cases A
      ·cases A
    ·cases A
  cases a with
  |sl g=>cases i with
    |int k n=>
      have:=dK O;subst this;cases N with
      |slnil=>simp[bN]at d|slz a p=>simp[bN]at d|sl _ b o p D z S q G H=>exact frozen g k n b o _ p D z rfl q G H d
    |_=>simp[bN]at d
  |tsl g=>cases i with
    |int k n=>
      have:=dK O;subst this;cases N with
      |tslnil=>simp[bN]at d|tslz a=>simp[bN]at d|tsl _ b o D z q G H=>exact frozen g k n b o _ _ D z rfl q G H d
    |_=>simp[bN]at d
  |own l X n=>cases i with
    |int k m=>
      have:=dK O;subst this;simp only[bN]at d;split at d
      · rename_i sz a2 g wr W;split at d
        · rename_i I;obtain⟨rfl,hn,F,q⟩:=I;split at d
          · rename_i f E;split at d
            ·rename_i M;cases d;cases N with
              |ownnil _ _ K=>omega|own _ _ _ r K S=>
                rcases T.ok l _ W with⟨k1,_⟩|⟨r',Y,k1,k2,k3,k4,k5,_⟩;·rw[K]at k1;cases k1
                ·rw[K]at k1;injection k1 with k1;cases k1;have L:=k5 f (gJ E);refine⟨_,.eptr l X m.toNat 0 r K,fun w=>?_⟩;rw[Q r.block 0 n r.cap k m F q w,<-L,M,eT,Nat.add_zero]
            ·cases d
          ·cases d
        ·cases d
      ·cases d|_=>simp[bN]at d
  |_=>simp[bN]at d
theorem nB(s:List UInt8):(ByteArray.mk s.toArray).size=s.length:=by show s.toArray.size=_;simp
theorem yv1{d:List (List AV)}{x:Value}(h:Rel C (.sl d) x):∃a c,x=.slice a d.length c:=by cases h with
 |slnil=>exact⟨none,0,rfl⟩|slz a c=>exact⟨some a,c,rfl⟩|sl _ b o c f g e _ _ _=>exact⟨_,c,rfl⟩
def zm3(P:Program)(t:TypeId)(k:Nat):Prop:=match k with|0=>P.underlying t=some .string|1=>∃e,P.underlying t=some (.slice e)|2=>∃q e,P.underlying t=some (.map q e)|_=>False
theorem yX2(p:Inv B C h w){t ty:TypeId}{x:Value}{a v:AV}{k:Nat}(g:Rel C a x)(d:aW h k a=some v)(c:zm3 P t k):∃u,Rel C v u/\∀f,Below w.heap.size w f->(Builtin.len_ #[t] ty #[x]).run P f=.ok u f:=by match k,a with
 |0,.str s=>
  simp only[aW]at d;cases d;have:=eD g;subst this;exact⟨_,.int _ _,fun f _=>by simp[Builtin.len_,run_underlying c,goInt,nB]⟩|1,.sl z=>
  simp only[aW]at d;cases d;obtain⟨e,c⟩:=c;obtain⟨a,D,rfl⟩:=yv1 g;exact⟨_,.int _ _,fun f _=>by simp[Builtin.len_,run_underlying c,goInt]⟩|1,.tsl z=>
  simp only[aW]at d;cases d;obtain⟨e,c⟩:=c;cases g<;>exact⟨_,.int _ _,fun f _=>by simp[Builtin.len_,run_underlying c,goInt]⟩|1,.nils=>
  simp only[aW]at d;cases d;obtain⟨e,c⟩:=c;cases g;exact⟨_,.int _ _,fun f _=>by simp[Builtin.len_,run_underlying c,goInt]⟩|1,.own l I n=>
  simp only[aW]at d;cases d;obtain⟨e,c⟩:=c;cases g<;>exact⟨_,.int _ _,fun f _=>by simp[Builtin.len_,run_underlying c,goInt]⟩|2,.map l=>
  simp only[aW]at d;split at d
  ·rename_i F y;cases d;obtain⟨q,e,c⟩:=c;cases g with|map _ b o=>
   obtain⟨A,H,E,i,G,j,h4,_⟩:=p.ok l _ y;rw[o]at i;cases i;refine⟨_,.int _ _,fun f r=>?_⟩;have m:=(r.block b (fM j)).trans j;simp[Builtin.len_,run_underlying c,goInt,getObj,Sem.run,m,h4]
  ·cases d|2,.nilm=>
  simp only[aW]at d;cases d;obtain⟨q,e,c⟩:=c;cases g;exact⟨_,.int _ _,fun f _=>by simp[Builtin.len_,run_underlying c,goInt]⟩
theorem QX{e:EK}{d:TypeDesc}{k g:AV}{x y:Value}{b:Bool}(a:match e with|.s=>d=.string|.i=>∃q,d=.int q|.b=>d=.bool)(c:Rel C k x)(f:Rel C g y)(h:qA e k g=some b):Instr.sameNow d x y=some b:=by
 cases e<;>cases k<;>cases g<;>simp only[qA]at h<;>(first|cases h|skip);·rw[jG c,jG f,a];simp only[Instr.sameNow]
 ·obtain⟨q,rfl⟩:=a;rw[dK c,dK f];exact h
 ·rw[eD c,eD f,a];simp only[Instr.sameNow];rw[beq_toListBytes,UN,UN]
theorem ZN{e:EK}{d:TypeDesc}(g:match e with|.s=>d=.string|.i=>∃q,d=.int q|.b=>d=.bool){k:AV}{x:Value}(l:Rel C k x):∀(b:List (AV×AV))(a:List MapEntry)(n:Nat)(r:Option AV),b.length=a.length->(∀(i:Nat)k v m,b[i]?=some (k,v)->a[i]?=some m->Rel C k m.key/\Rel C v m.val)->iP e k b=some r->match r with
   |some v=>∃i u,Instr.findNow d x a n=some (some (i,u))/\Rel C v u|none=>Instr.findNow d x a n=some none
 |[],[],n,r,_,_,h=>by simp[iP]at h;subst h;rfl|[],_::_,_,_,c,_,_=>by simp at c|_::_,[],_,_,c,_,_=>by simp at c|(y,v)::b,m::a,n,r,c,o,h=>by
  obtain⟨p,z⟩:=o 0 y v m rfl rfl;simp only[iP]at h;have f:=ZN g l b a (n+1) r (by simpa using c) (fun i k v m s t=>o (i+1) k v m (by simpa using s) (by simpa using t));split at h
  ·rename_i j;cases h;have:=QX g l p j;exact⟨n,m.val,by simp[Instr.findNow,this],z⟩
  ·rename_i j;have:=QX g l p j;have f:=f h;cases r with
   |none=>simp only[Instr.findNow,this];exact f|some v=>simp only[Instr.findNow,this];exact f
  ·cases h
theorem run_checkKey{e:EK}{b:TypeId}{d:TypeDesc}(a:match e with|.s=>d=.string|.i=>∃q,d=.int q|.b=>d=.bool)(g:P.underlying b=some d)(x:Value)(c:Bool)(w:World):(Instr.checkKey c 10000 b x).run P w=.ok () w:=by
 have f:∀n,(Instr.checkKey c (n+1) b x).run P w=.ok () w:=fun n=>by
  simp only[Instr.checkKey,Sem.run_bind,run_underlying g,Result.andThen_ok];cases e<;>simp only at a;·subst a;rfl
  ·obtain⟨q,rfl⟩:=a;rfl
  ·subst a;rfl
 exact f 9999
theorem TK{e:TypeId}{z:AV}(a:sB P e=some z):∃u,Rel C z u/\∀w,(zeroValue e).run P w=.ok u w:=by
 unfold sB at a;cases b:P.info? e with
 |none=>simp[b]at a|some i=>cases c:i.zero with
  |none=>simp[b,c]at a|some u=>
   simp[b,c]at a;exact⟨u,zP4 a,fun w=>by simp[zeroValue,typeInfo,b,c]⟩
theorem yY1(V:Inv B C h w){e:EK}{t T M:TypeId}{d:TypeDesc}(D:P.underlying t=some (.map T M))(s:match e with|.s=>d=.string|.i=>∃q,d=.int q|.b=>d=.bool)(j:P.underlying T=some d){z:AV}(Y:sB P M=some z){F:Bool}{m k v:AV}{x y:Value}(S:Rel C m x)(X:Rel C k y)(a:bV h (.look e F z) [m,k]=some v):∃u,Rel C v u/\∀n,Below w.heap.size w n->(Instr.lookup t x y F).run P n=.ok u n:=by
  obtain⟨J,H,I⟩:=TK (C:=C) Y;simp only[bV]at a;split at a
  · cases m<;>simp only at a<;>(first|cases a|skip);case map l=>
      split at a
      ·rename_i L W;cases S with|map _ b U=>
          obtain⟨b',Z,ck,G,N,o,h4,h5,_⟩:=V.ok l _ W;rw[U]at G;cases G;cases K:iP e k L with
          |none=>simp[K]at a|some r=>
            simp only[K,dI,aE]at a;have E:=ZN s X L Z.toList 0 r (by simpa using h4) (fun i k v m G N=>by
              have:=h5 i k v m G (by simpa using N);exact⟨this.1.mono C.frozen_le,this.2.mono C.frozen_le⟩) K;cases r with
            |none=>
              simp only at a E;cases F with
              |true=>
                simp only[aM]at a;subst a;exact⟨_,.tup _ #[J,.bool false] rfl (fun i c u f g=>by match i with
                  |0=>simp at f g;subst f g;exact H|1=>simp at f g;subst f g;exact .bool _|_+2=>simp at f),fun n A=>by
                  have p:=(A.block b (fM o)).trans o;simp[Instr.lookup,run_underlying D,getObj,Sem.run,p,run_checkKey s j,Instr.findKey,run_underlying j,E,I]⟩|false=>
                simp only[bM,bH]at a;subst a;exact⟨J,H,fun n A=>by
                  have p:=(A.block b (fM o)).trans o;simp[Instr.lookup,run_underlying D,getObj,Sem.run,p,run_checkKey s j,Instr.findKey,run_underlying j,E,I]⟩
            |some v'=>
              simp only at a E;obtain⟨i,u,O,Q⟩:=E;cases F with
              |true=>
                simp only[aM]at a;subst a;exact⟨_,.tup _ #[u,.bool true] rfl (fun i c u f g=>by match i with
                  |0=>simp at f g;subst f g;exact Q|1=>simp at f g;subst f g;exact .bool _|_+2=>simp at f),fun n A=>by
                  have p:=(A.block b (fM o)).trans o;simp[Instr.lookup,run_underlying D,getObj,Sem.run,p,run_checkKey s j,Instr.findKey,run_underlying j,O]⟩|false=>
                simp only[bM,bH]at a;subst a;exact⟨u,Q,fun n A=>by
                  have p:=(A.block b (fM o)).trans o;simp[Instr.lookup,run_underlying D,getObj,Sem.run,p,run_checkKey s j,Instr.findKey,run_underlying j,O]⟩
      ·cases a
    case isTrue.nilm.refl=>
      cases S;cases F with
      |true=>exact⟨_,.tup _ #[J,.bool false] rfl (fun i c u f g=>by match i with
          |0=>simp at f g;subst f g;exact H|1=>simp at f g;subst f g;exact .bool _|_+2=>simp at f),fun n _=>by simp[Instr.lookup,run_underlying D,run_checkKey s j,Instr.findKey,run_underlying j,Instr.findNow,I]⟩|false=>exact⟨J,H,fun n _=>by simp[Instr.lookup,run_underlying D,run_checkKey s j,Instr.findKey,run_underlying j,Instr.findNow,I]⟩
  ·cases a
end
section
variable{P:Program}{B:Base}{C:Cx}{h:aA}{w:World}
theorem BC{k:IntKind}{i:Int}{y:Nat}{code:BoundsCode}(a:0<=i)(b:i<=y)(w:World):(Instr.sliceBound (.int k i) y code).run P w=.ok i.toNat w:=by simp[Instr.sliceBound,asIntOf,a,b]
def bnd(o:Option (IntKind×Int)):Option Value:=o.map fun q=>.int q.1 q.2
def dA(o:Option (IntKind×Int)):Option Int:=o.map (·.2)
theorem MQ(r:Bool)(a d:Nat)(f b:Option (IntKind×Int))(s:a<=d)(g:0<=(dA f).getD 0)(e:(dA f).getD 0<=(dA b).getD a)(i:(dA b).getD a<=a)(w:World):(Instr.sliceBounds r a d (bnd f) (bnd b) none).run P w=.ok (((dA f).getD 0).toNat,((dA b).getD a).toNat,d) w:=by cases f with
 |none=>cases b with
  |none=>simp[Instr.sliceBounds,bnd,dA]|some q=>
   obtain⟨k,n⟩:=q;simp[dA]at e i;have:=fun c=>BC (P:=P) (k:=k) (i:=n) (y:=d) (code:=c) e (by omega) w;simp[Instr.sliceBounds,bnd,dA,this]
 |some p=>
  obtain⟨j,m⟩:=p;cases b with
  |none=>
   simp[dA]at g e;have:=fun c=>BC (P:=P) (k:=j) (i:=m) (y:=a) (code:=c) g e w;simp[Instr.sliceBounds,bnd,dA,this]|some q=>
   obtain⟨k,n⟩:=q;simp[dA]at g e i;have l:=fun c=>BC (P:=P) (k:=k) (i:=n) (y:=d) (code:=c) (by omega) (by omega) w;have o:=fun c=>BC (P:=P) (k:=j) (i:=m) (y:=n.toNat) (code:=c) g (by omega) w;simp[Instr.sliceBounds,bnd,dA,l,o]
theorem zd4(k:Bool)(o b:Nat)(a:Option (IntKind×Int))(k1 k2:IntKind)(n:Int)(f:0<=(dA a).getD 0)(i:(dA a).getD 0<=n)(j:n<=b)(w:World):(Instr.sliceBounds k o b (bnd a) (some (.int k1 n)) (some (.int k2 n))).run P w=.ok (((dA a).getD 0).toNat,n.toNat,n.toNat) w:=by
 have d:=fun c=>BC (P:=P) (k:=k2) (i:=n) (y:=b) (code:=c) (by omega) j w;have e:=fun c=>BC (P:=P) (k:=k1) (i:=n) (y:=n.toNat) (code:=c) (by omega) (by omega) w;cases a with
 |none=>simp[Instr.sliceBounds,bnd,dA,d,e]|some p=>
  obtain⟨l,m⟩:=p;simp[dA]at f i;have g:=fun c=>BC (P:=P) (k:=l) (i:=m) (y:=n.toNat) (code:=c) f (by omega) w;simp[Instr.sliceBounds,bnd,dA,d,e,g]
theorem yJ1(s:List UInt8)(a b:Nat):(ByteArray.mk s.toArray).extract a b=⟨((s.take b).drop a).toArray⟩:=by
 apply ByteArray.ext;rw[ByteArray.data_extract];apply kK;simp[List.drop_take]
theorem xm5{k:List (List AV)}{x:Value}{L f:Nat}{a:Option Addr}(y:x=.slice a L f)(h:Rel C (.sl k) x)(l r:Nat)(Q:l<=r)(t:r<=k.length)(s:Nat)(D:∀g∈k,g.length=s)(m:Nat)(J:m=f):Rel C (.sl ((k.take r).drop l)) (.slice (if m=l then a else a.map (·.add (l*s))) (r-l) (m-l)):=by
  subst J;cases h with
  |slnil=>
    injection y with n p q;subst n p q;simp at t;subst t;have:l=0:=by omega
    subst this;simp;exact .slnil|slz M N=>
    injection y with n p q;subst n p q;simp at t;subst t;have:l=0:=by omega
    subst this;simp;split<;>exact .slz _ _|sl _ b o f S E O n p q=>
    injection y with G H I;subst G H I;have v:((k.take r).drop l).length=r-l:=by simp;omega
    by_cases A:f=l
    · subst A;have z:r-f=0:=by omega
      have K:(k.take r).drop f=[]:=uL (by rw[v];exact z);rw[K,z];simp;exact .sl [] b o 0 s E (by simp) (by simp) (by simp) (by simp)
    · simp only[if_neg A,dI,Addr.add_lit];rw[<-v];refine .sl _ b (o+l*s) (f-l) s (fun i j=>E (l+i) j) (by rw[v];omega) ?_ ?_ ?_
      ·intro i g d;exact D g (sN (DE (gJ d)))
      · intro i g j c d u;rw[oH,fS]at d;split at d
        ·have e:=n _ _ d;have F:=D g (gJ d);have:=p _ _ _ _ d u;rw[<-e,F]at this;rw[<-this];congr 1;rw[gL];omega
        ·cases d
      · intro i g j c d u;rw[oH,fS]at d;split at d;·exact q _ _ _ _ d u
        ·cases d
theorem tS{n:Nat}:∀{c:List (List AV)},dH n c=true->∀a∈c,a.length=n
 |[],_,a,h=>by simp at h|r::d,b,a,h=>by
  simp only[dH,bR,fD]at b;rcases dD.1 h with rfl|h;·exact b.1
  ·exact tS b.2 a h
theorem zV0{c:List (List AV)}{x:Value}(h:Rel C (.tsl c) x):Rel C (.sl c) x:=by cases h with
 |tslnil=>exact .slnil|tslz a=>exact .slz a 0|tsl _ b o g i d e f=>exact .sl c b o c.length g i (bP _) d e f
theorem xm6{d:List (List AV)}{b o A t:Nat}(h:Rel C (.sl d) (.slice (some ⟨b,o,none⟩) A t))(l r:Nat)(G:l<=r)(n:r<=d.length)(g:Nat)(p:∀f∈d,f.length=g):Rel C (.tsl ((d.take r).drop l)) (.slice (if r=l then some ⟨b,o,none⟩else(some (⟨b,o,none⟩:Addr)).map (·.add (l*g))) (r-l) (r-l)):=by
  have m:((d.take r).drop l).length=r-l:=by simp;omega
  cases h with
  |slz D E=>
    simp at n;subst n;have:l=0:=by omega
    subst this;simp;exact .tslz _|sl _ _ _ _ H s F v x y=>
    have q:Rel C (.tsl ((d.take r).drop l)) (.slice (some ⟨b,o+l*g,none⟩) ((d.take r).drop l).length ((d.take r).drop l).length):=by
      refine .tsl _ b (o+l*g) g (fun i j=>s (l+i) j) ?_ ?_ ?_
      ·intro i f a;exact p f (sN (DE (gJ a)))
      · intro i f j c a k;rw[oH,fS]at a;split at a
        ·have e:=v _ _ a;have u:=p f (gJ a);have:=x _ _ _ _ a k;rw[<-e,u]at this;rw[<-this];congr 1;rw[gL];omega
        ·cases a
      · intro i f j c a k;rw[oH,fS]at a;split at a;·exact y _ _ _ _ a k
        ·cases a
    by_cases e:r=l
    ·subst e;have z:(d.take r).drop r=[]:=uL (by rw[m];omega);rw[z];simp;exact .tsl [] b o g s (by simp) (by simp) (by simp)
    ·simp only[if_neg e,dI,Addr.add_lit];rw[m]at q;exact q
theorem ze1{o:Option Operand}{i:Operand->Value}{rest:List Value}{c d:List AV}{l:Option Int}(f:RelL C c (o.toList.map i++rest))(h:pA o.isSome c=some (l,d)):∃g:Option (IntKind×Int),o.map i=bnd g/\l=dA g/\RelL C d rest:=by cases o with
 |none=>simp[pA]at h;obtain⟨rfl,rfl⟩:=h;exact⟨none,rfl,rfl,by simpa using f⟩|some x=>
  simp only[pA,Option.isSome,aM]at h;split at h
  ·rename_i k n r;injection h with h;injection h with a b;subst a b;obtain⟨v,j,e,a,b⟩:=f.inv_cons;simp at e;obtain⟨rfl,rfl⟩:=e;refine⟨some (k,n),?_,rfl,b⟩;have:=dK a;simp[bnd,this]
  ·cases h
theorem ya1{f e g:Option Operand}{d:Operand->Value}{i:List AV}{l r m:Option Int}(j:RelL C i ((f.toList++e.toList++g.toList).map d))(h:qL f.isSome e.isSome g.isSome i=some (l,r,m)):∃a c b:Option (IntKind×Int),f.map d=bnd a/\e.map d=bnd c/\g.map d=bnd b/\l=dA a/\r=dA c/\m=dA b:=by
  simp only[List.map_append,jT]at j;unfold qL at h;split at h
  · rename_i G E x;obtain⟨a,k,n,A⟩:=ze1 j x;split at h
    · rename_i I F y;obtain⟨c,o,p,D⟩:=ze1 A y;split at h
      ·rename_i H z;injection h with h;injection h with t h;injection h with u v;subst t u v;obtain⟨b,q,s,_⟩:=ze1 (rest:=[]) (by simpa using D) z;exact⟨a,c,b,k,o,q,n,p,s⟩
      ·cases h
    ·cases h
  ·cases h
theorem xs8{n:Nat}{a:List (List AV)}{c b:Option Int}{v:AV}(h:yA n a c b none=some v):0<=c.getD 0/\c.getD 0<=b.getD a.length/\b.getD a.length<=a.length/\dH n a=true/\v=.sl ((a.take (b.getD a.length).toNat).drop (c.getD 0).toNat):=by
 have h:(if 0<=c.getD 0/\c.getD 0<=b.getD a.length/\b.getD a.length<=a.length/\dH n a then some (AV.sl ((a.take (b.getD a.length).toNat).drop (c.getD 0).toNat))else none)=some v:=h;split at h;·rename_i d;injection h with h;exact⟨d.1,d.2.1,d.2.2.1,d.2.2.2,h.symm⟩
 ·cases h
theorem xs9{n:Nat}{b:List (List AV)}{a d:Option Int}{m:Int}{v:AV}(h:yA n b a d (some m)=some v):d=some m/\0<=a.getD 0/\a.getD 0<=m/\m<=b.length/\dH n b=true/\v=.tsl ((b.take m.toNat).drop (a.getD 0).toNat):=by
 have h:(if d=some m/\0<=a.getD 0/\a.getD 0<=m/\m<=b.length/\dH n b then some (AV.tsl ((b.take m.toNat).drop (a.getD 0).toNat))else none)=some v:=h;split at h;·rename_i c;injection h with h;exact⟨c.1,c.2.1,c.2.2.1,c.2.2.2.1,c.2.2.2.2,h.symm⟩
 ·cases h
theorem xt0{s:List UInt8}{b a:Option Int}{v:AV}(h:BH s b a=some v):0<=b.getD 0/\b.getD 0<=a.getD s.length/\a.getD s.length<=s.length/\v=.str ((s.take (a.getD s.length).toNat).drop (b.getD 0).toNat):=by
 unfold BH at h;split at h;·rename_i c;injection h with h;exact⟨c.1,c.2.1,c.2.2,h.symm⟩
 ·cases h
theorem zd2{t e:TypeId}{n:Nat}(D:P.underlying t=some (.slice e))(A:dU P e=some n){x:Value}{g:List (List AV)}(G:Rel C (.sl g) x){v:AV}(f y H:Option (IntKind×Int))(K:yA n g (dA f) (dA y) (dA H)=some v):∃u,Rel C v u/\∀w,(Instr.sliceAt t x (bnd f) (bnd y) (bnd H)).run P w=.ok u w:=by cases H with
 |none=>
  obtain⟨k,l,z,E,rfl⟩:=xs8 K;have U:∃a c,x=.slice a g.length c/\g.length<=c:=by cases G with
   |slnil=>exact⟨none,0,rfl,by simp⟩|slz a c=>exact⟨some a,c,rfl,by simp⟩|sl _ b o c W M s _ _ _=>exact⟨_,c,rfl,s⟩
  obtain⟨a,c,L,s⟩:=U;have i:=MQ (P:=P) true g.length c f y s k l z;refine⟨_,xm5 L G ((dA f).getD 0).toNat ((dA y).getD g.length).toNat (by omega) (by omega) n (tS E) c rfl,fun w=>?_⟩;subst L;have j:=i w;simp only[Instr.sliceAt,Sem.run_bind,run_underlying D,Result.andThen_ok,Instr.slice];rw[show bnd (none:Option (IntKind×Int))=none from rfl,j];simp only[Result.andThen_ok,jC A,Sem.run_pure]|some q=>
  obtain⟨k2,m⟩:=q;obtain⟨J,k,l,z,E,rfl⟩:=xs9 (m:=m) K;cases y with
  |none=>cases J|some p=>
   obtain⟨k1,d⟩:=p;have:d=m:=by simpa[dA]using J
   subst this;cases G with
   |slnil=>
    have r:d=0:=by simp at z;omega
    have F:((dA f).getD 0)=0:=by omega
    have i:=zd4 (P:=P) true 0 0 f k1 k2 d k l (by simp[r]);subst r;refine⟨.slice none 0 0,by simpa using .tslnil,fun w=>?_⟩;have j:=i w;simp only[Instr.sliceAt,Sem.run_bind,run_underlying D,Result.andThen_ok,Instr.slice];rw[show bnd (some (k1,(0:Int)))=some (.int k1 0)from rfl,show bnd (some (k2,(0:Int)))=some (.int k2 0)from rfl,j];simp[jC A,F]|slz I N=>
    have r:d=0:=by simp at z;omega
    have F:((dA f).getD 0)=0:=by omega
    have i:=zd4 (P:=P) true 0 N f k1 k2 d k l (by simp[r]);subst r;refine⟨.slice (some I) 0 0,by simpa using .tslz I,fun w=>?_⟩;have j:=i w;simp only[Instr.sliceAt,Sem.run_bind,run_underlying D,Result.andThen_ok,Instr.slice];rw[show bnd (some (k1,(0:Int)))=some (.int k1 0)from rfl,show bnd (some (k2,(0:Int)))=some (.int k2 0)from rfl,j];simp[jC A,F]|sl _ b o c V M s O Q S=>
    have i:=zd4 (P:=P) true g.length c f k1 k2 d k l (by omega);have T:Rel C (.sl g) (.slice (some ⟨b,o,none⟩) g.length c):=.sl g b o c V M s O Q S;refine⟨_,xm6 T ((dA f).getD 0).toNat d.toNat (by omega) (by omega) n (tS E),fun w=>?_⟩;have j:=i w;simp only[Instr.sliceAt,Sem.run_bind,run_underlying D,Result.andThen_ok,Instr.slice];rw[show bnd (some (k1,d))=some (.int k1 d)from rfl,show bnd (some (k2,d))=some (.int k2 d)from rfl,j];simp only[Result.andThen_ok,jC A,Sem.run_pure]
theorem ya4{t:TypeId}{size:Option Nat}(c:match size with|none=>P.underlying t=some .string|some n=>∃e,P.underlying t=some (.slice e)/\dU P e=some n){a v:AV}{x:Value}(k:Rel C a x)(f d g:Option (IntKind×Int))(b:qK size a (dA f) (dA d) (dA g)=some v):∃u,Rel C v u/\∀w,(Instr.sliceAt t x (bnd f) (bnd d) (bnd g)).run P w=.ok u w:=by
 unfold qK at b;split at b
 ·rename_i s;have:=eD k;subst this;cases g with
  |some q=>cases b|none=>
   obtain⟨j,l,r,rfl⟩:=xt0 b;have m:=MQ (P:=P) false s.length s.length f d (bP _) j l r;refine⟨_,.str _,fun w=>?_⟩;have o:=m w;simp only[Instr.sliceAt,Sem.run_bind,run_underlying c,Result.andThen_ok,Instr.slice];rw[show bnd (none:Option (IntKind×Int))=none from rfl,nB];simp only[Option.isSome,bM,bH,Sem.run_bind,o,Result.andThen_ok,Sem.run_pure,yJ1]
 ·rename_i n z;obtain⟨e,c,i⟩:=c;exact zd2 c i k f d g b
 ·rename_i n z;obtain⟨e,c,i⟩:=c;cases g with
  |some q=>cases b|none=>exact zd2 c i (zV0 k) f d none b
 ·rename_i n;obtain⟨e,c,i⟩:=c;cases g with
  |some q=>cases b|none=>
   split at b
   ·rename_i y;cases b;obtain⟨_,j,l⟩:=y;cases k;have m:=MQ (P:=P) true 0 0 f d (bP _) (by omega) (by rw[j];show 0<=(dA d).getD 0;omega) (by show(dA d).getD 0<=0;omega);refine⟨_,.nils,fun w=>?_⟩;have o:=m w;simp only[Instr.sliceAt,Sem.run_bind,run_underlying c,Result.andThen_ok,Instr.slice];rw[show bnd (none:Option (IntKind×Int))=none from rfl,o];simp only[Result.andThen_ok,jC i,Sem.run_pure,j];have p:(dA d).getD (↑(0:Nat))=0:=l;rw[p];simp
   ·cases b
 ·cases b
theorem xF8{t e:TypeId}{d l c n:Nat}{r:RowAt}(v:P.underlying t=some (.slice e))(q:dU P e=some d)(p:C.ar l c=some (some r))(o:n<=r.cap)(s:r.size=d)(a b:Option (IntKind×Int))(f:0<=(dA a).getD 0)(x:(dA a).getD 0<(dA b).getD n)(g:(dA b).getD n<=n):∃u,Rel C (.win l c ((dA a).getD 0).toNat ((dA b).getD n-(dA a).getD 0).toNat) u/\∀w,(Instr.sliceAt t (.slice (some ⟨r.block,0,none⟩) n r.cap) (bnd a) (bnd b) (bnd none)).run P w=.ok u w:=by
 have k:=MQ (P:=P) true n r.cap a b o f (by omega) g;refine⟨_,.win l c _ _ r p (by omega),fun w=>?_⟩;have m:=k w;simp only[Instr.sliceAt,Sem.run_bind,run_underlying v,Result.andThen_ok,Instr.slice];rw[show bnd (none:Option (IntKind×Int))=none from rfl,m];simp only[Result.andThen_ok,jC q,Sem.run_pure];subst s;have i:¬r.cap=((dA a).getD 0).toNat:=by omega
 have j:((dA b).getD (n:Int)).toNat-((dA a).getD 0).toNat=((dA b).getD (n:Int)-(dA a).getD 0).toNat:=by omega
 rw[if_neg i,j];simp[Addr.add_lit]
end
section
variable{P:Program}{B:Base}{C:Cx}{h:aA}{w:World}
theorem zZ2:∀(f:List AV)(g:List Value)(d:List AV)(e:Array Value)(b k:Nat),RelL C d e.toList->RelL C f g->RelL C (bF d (b+k) f) ((g.zipIdx k).foldl (fun a(x:Value×Nat)=>a.setIfInBounds (b+x.2) x.1) e).toList
 |[],g,d,e,b,k,i,j=>by
  have:=j.inv_nil;subst this;simpa[bF]using i|c::f,g,d,e,b,k,i,j=>by
  obtain⟨v,n,rfl,l,m⟩:=j.inv_cons;simp only[bF,List.zipIdx_cons,List.foldl_cons];exact zZ2 f n _ _ b (k+1) (by rw[Array.toList_setIfInBounds];exact i.set (b+k) l) m
theorem OT(o:Nat->Option (Nat×Nat)):∀(n:List (Nat×Operand))(g:Operand->Value)(m:List (Nat×Nat))(j:List AV)(f:Array Value)(b d:List AV),placesOf o n=some m->RelL C j f.toList->RelL C b (n.map fun p=>g p.2)->eB j m b=some d->∃k,Instr.fill o f (n.map fun p=>(p.1,g p.2))=some k/\RelL C d k.toList
 |[],g,m,j,f,b,d,c,l,y,a=>by
  simp[placesOf]at c;subst c;cases b with
  |nil=>simp[eB]at a;subst a;exact⟨f,rfl,l⟩|cons _ _=>simp[eB]at a
 |(i,x)::r,g,m,j,f,b,d,c,l,y,a=>by
  simp only[placesOf]at c;split at c
  ·rename_i q K D E;cases c;obtain⟨J,Q⟩:=q;cases b with
   |nil=>simp[eB]at a|cons v b=>
    simp only[eB]at a;split at a
    ·rename_i F;obtain⟨s,N,O⟩:=F;obtain⟨u,S,e,L,M⟩:=y.inv_cons;simp at e;obtain⟨rfl,rfl⟩:=e;have t:=JI L (by intro e;rw[e]at s;simp at s;omega);have H:=t.1;have I:=l.1;simp at H I;have G:=zZ2 _ _ _ _ J 0 l t;obtain⟨k,z,A⟩:=OT o r g K _ _ b d E G M a;refine⟨k,?_,A⟩;simp only[fE,Instr.fill,D];rw[if_neg (by simp;omega)];rw[<-z];congr 1;rw[<-Array.foldl_toList,Array.toList_zipIdx]
    ·cases a
  ·cases c
theorem GN{t:TypeId}{z:List AV}(a:kC P t=some z):∃i b,P.info? t=some i/\i.zero=some b/\RelL C z b.cells.toList:=by
 unfold kC at a;cases c:P.info? t with
 |none=>simp[c]at a|some i=>cases d:i.zero with
  |none=>simp[c,d]at a|some b=>
   simp[c,d]at a;exact⟨i,b,rfl,d,ZW a⟩
theorem yu2{t:TypeId}{z:List AV}(H:kC P t=some z){m:Nat->Option (Nat×Nat)}(a:zb3 P t=some m){b:Array (Nat×Operand)}{o:List (Nat×Nat)}(E:placesOf m b.toList=some o){ρ:Operand->Value}{q j:List AV}(G:RelL C q (b.toList.map fun p=>ρ p.2))(A:eB z o q=some j):∃c,RelL C j c.toList/\∀w,(Instr.build t (b.map fun(i,x)=>(i,ρ x))).run P w=.ok (.agg c) w:=by
 obtain⟨i,I,s,u,F⟩:=GN (C:=C) H;obtain⟨c,r,y⟩:=OT m b.toList ρ o z I.cells q j E F G A;refine⟨c,y,fun w=>run_build w t _ c ?_⟩;have D:(b.map fun(x:Nat×Operand)=>(x.1,ρ x.2)).toList=b.toList.map fun p=>(p.1,ρ p.2):=by simp
 show P.built t (b.map fun(x:Nat×Operand)=>(x.1,ρ x.2)).toList=some c;rw[D];unfold zb3 at a;cases g:P.underlying t with
 |none=>simp[g]at a|some d=>
  cases d<;>simp only[g]at a<;>(first|cases a|skip);case some.struct v=>cases l:v.toList.mapM (fun f=>(P.info? f.type).map fun i=>(f.offset,i.size))with
   |none=>simp[l]at a|some K=>
    simp only[l,dI,aE]at a;subst a;simp only[Program.built,s,g,u,l];exact r
  case some.array n e=>cases k:P.info? e with
   |none=>simp[k]at a|some J=>
    simp only[k,dI,aE]at a;subst a;simp only[Program.built,s,g,u,k];exact r
theorem zx3{t:TypeId}{a:Array Field}(b:P.underlying t=some (.struct a))(d:Nat):gN P (d+1) t=if P.stoodInHeld t then none else pW P (gN P d) a.toList 0:=by simp only[gN,b]
theorem XO{t:TypeId}{f:Array Field}{a:List EK}(k:P.underlying t=some (.struct f))(r:gN P 100 t=some a){g i:Array Value}{c d:List AV}{b:Bool}(l:RelL C c g.toList)(m:RelL C d i.toList)(o:c.length=a.length)(p:d.length=a.length)(q:eV a c d=some b)(w:World):(Op.equalIn 10000 t (.agg g) (.agg i)).run P w=.ok b w:=by
  have j:(if P.stoodInHeld t then none else pW P (gN P 99) f.toList 0)=some a:=by
    have:gN P (99+1) t=some a:=r;rw[zx3 k]at this;exact this
  split at j;·cases j
  · rename_i s;have n:P.fieldsOf t=f:=by simp[Program.fieldsOf,k]
    have u:P.underlying t=some (.struct (P.fieldsOf t)):=by rw[n];exact k
    have e:=run_equalIn_struct (P:=P) w 9999 t g i u (by simpa using s);rw[n]at e;rw[show(10000:Nat)=9999+1 from rfl,e];have:=zv3 (zv0 99) f.toList 0 a g i c d b j (by rw[wK,<-o,l.1,zJ];exact l) (by rw[wK,<-p,m.1,zJ];exact m) o p q 9900 w;exact this
theorem xF1{e:List AV}{x y z:Value}(h:RelL C e [x,y,z]):∃a b c,e=[a,b,c]/\Rel C a x/\Rel C b y/\Rel C c z:=by
 obtain⟨f,d⟩:=h;match e,f with|[a,b,c],_=>exact⟨a,b,c,rfl,d 0 _ _ rfl rfl,d 1 _ _ rfl rfl,d 2 _ _ rfl rfl⟩
def yh9(P:Program)(C:Cx)(h:aA)(w:World)(o:Op)(e:AO)(f:List Operand):Prop:=∀(c:List AV)(v:AV)(d:Operand->Value)(b:Oper),b.op=o->RelL C c (f.map d)->bV h e c=some v->∃u,Rel C v u/\∀a,Below w.heap.size w a->(execOp d b).run P a=.ok (.value u) a
theorem yZ4{a b v:AV}(h:LC a b=some v):∃k x y,a=.int k x/\b=.int k y/\v=.int k (if x<y then y else x):=by
  unfold LC at h;split at h
  · rename_i k x c y;split at h;·rename_i e;subst e;injection h with h;exact⟨k,x,y,rfl,rfl,h.symm⟩
    ·cases h
  ·cases h
theorem xa1{a b v:AV}(h:ZO a b=some v):∃k x y,a=.int k x/\b=.int k y/\v=.int k (if y<x then y else x):=by
  unfold ZO at h;split at h
  · rename_i k x c y;split at h;·rename_i e;subst e;injection h with h;exact⟨k,x,y,rfl,rfl,h.symm⟩
    ·cases h
  ·cases h
set_option maxHeartbeats 800000 in theorem xk0(hi:Inv B C h w){o:Op}{ao:AO}{xs:List Operand}(j:iL P o=some (ao,xs)):yh9 P C h w o ao xs:=by
  intro b2 v q N c3 G p;have ex:execOp q N=execOp q {N with op:=o}:=by rw[<-c3]
  rw[ex];clear ex c3;have T:∀{x:Operand}{op:Op}(k:∀a,b2=[a]->Rel C a (q x)->∃u,Rel C v u/\∀g,Below w.heap.size w g->(execOp q {N with op:=op}).run P g=.ok (.value u) g)(O:RelL C b2 [q x]),∃u,Rel C v u/\∀g,Below w.heap.size w g->(execOp q {N with op:=op}).run P g=.ok (.value u) g:=by
    intro x op k O;cases b2 with
    |nil=>simp[RelL]at O|cons a as=>
      obtain⟨y,L,e,E,H⟩:=O.inv_cons;injection e with D M;subst D M;cases as with
      |nil=>exact k a rfl E|cons _ _=>simp[RelL]at H
  have X:∀{x y:Operand}{op:Op}(k:∀a b,b2=[a,b]->Rel C a (q x)->Rel C b (q y)->∃u,Rel C v u/\∀g,Below w.heap.size w g->(execOp q {N with op:=op}).run P g=.ok (.value u) g)(O:RelL C b2 [q x,q y]),∃u,Rel C v u/\∀g,Below w.heap.size w g->(execOp q {N with op:=op}).run P g=.ok (.value u) g:=by
    intro x y op k O;cases b2 with
    |nil=>simp[RelL]at O|cons a as=>
      obtain⟨y,L,e,E,H⟩:=O.inv_cons;injection e with D M;subst D M;cases as with
      |nil=>simp[RelL]at H|cons b bs=>
        obtain⟨y,L,e,r3,r4⟩:=H.inv_cons;injection e with D M;subst D M;cases bs with
        |nil=>exact k a b rfl E r3|cons _ _=>simp[RelL]at r4
  have J:∀{op:Op}{u:Value}{i3:World->Prop}(f:Sem Value),(∀g,(execOp q {N with op:=op}).run P g=((do pure (.value (<-f)):Sem Next)).run P g)->(∀g,i3 g->f.run P g=.ok u g)->∀g,i3 g->(execOp q {N with op:=op}).run P g=.ok (.value u) g:=by
    intro op u i3 f A I g hs;rw[A,Sem.run_bind,I g hs];rfl
  cases o with
  |move x=>
    simp only[iL]at j;cases j;refine T (x:=x) (fun a e r=>?_) G;subst e;simp only[bV]at p;cases p;exact⟨_,r,fun g _=>rfl⟩|assign x=>
    simp only[iL]at j;cases j;refine T (x:=x) (fun a e r=>?_) G;subst e;simp only[bV]at p;cases p;exact⟨_,r,fun g _=>rfl⟩|pick c x y=>
    simp only[iL]at j;cases j;obtain⟨vc,a,b,rfl,E,r3,r4⟩:=xF1 G;cases vc<;>simp only[bV]at p<;>(first|cases p|skip);rename_i bb;have D:=jG E;refine⟨if bb then q x else q y,by cases bb<;>assumption,fun g _=>?_⟩;simp only[execOp,D,asBool];cases bb<;>rfl|binOp op t x y yt=>
    simp only[iL]at j;cases s:P.underlying t with
    |none=>simp[s]at j|some d=>
      have plain:ao=.bin op->xs=[x,y]->∃u,Rel C v u/\∀g,Below w.heap.size w g->(execOp q {N with op:=.binOp op t x y yt}).run P g=.ok (.value u) g:=by
        rintro rfl rfl;refine X (x:=x) (y:=y) (fun a b e E H=>?_) G;subst e;simp only[bV]at p;obtain⟨u,A,I⟩:=yq4 E H p t x y;exact⟨u,A,J _ (fun g=>rfl) (fun g _=>I g)⟩
      cases d<;>simp only[s]at j<;>(first|cases j|skip);case some.bool=>
        have bb:∀b1:Bool,(op=if b1 then .neq else .eql)->ao=.eqB b1->xs=[x,y]->∃u,Rel C v u/\∀g,Below w.heap.size w g->(execOp q {N with op:=.binOp op t x y yt}).run P g=.ok (.value u) g:=by
          rintro b1 c3 rfl rfl;refine X (x:=x) (y:=y) (fun a b e E H=>?_) G;subst e;cases a<;>cases b<;>simp only[bV]at p<;>(first|cases p|skip);rename_i p2 c1;have D:=jG E;have M:=jG H;refine⟨_,.bool _,J _ (fun g=>rfl) (fun g _=>?_)⟩;subst c3;rw[D,M];have:=fun w=>run_equalIn_bool' (P:=P) w 9999 t p2 c1 s;cases b1<;>simp[zX7,Value.oneCell',binOp,Op.equal,Op.maxDepth,this]
        cases op<;>simp only at j<;>(first|cases j|skip);·exact bb false rfl rfl rfl
        ·exact bb true rfl rfl rfl
      case some.int.refl c1=>exact plain rfl rfl
      case some.string.refl=>exact plain rfl rfl
      case some.struct fs=>
        split at j
        · rename_i U;split at j
          · rename_i ks W;split at j
            · rename_i hs;have ee:∀b1:Bool,(op=if b1 then .neq else .eql)->ao=.eqA b1 ks->xs=[x,y]->∃u,Rel C v u/\∀g,Below w.heap.size w g->(execOp q {N with op:=.binOp op t x y yt}).run P g=.ok (.value u) g:=by
                rintro b1 c3 rfl rfl;refine X (x:=x) (y:=y) (fun a b e E H=>?_) G;subst e;cases a<;>cases b<;>simp only[bV]at p<;>(first|cases p|skip);rename_i as bs;split at p
                ·rename_i V;cases he:eV ks as bs with
                  |none=>simp[he]at p|some bb=>
                    simp only[he,dI,aE]at p;subst p;obtain⟨L,D,q1⟩:=sJ E;obtain⟨vs,M,q2⟩:=sJ H;refine⟨_,.bool _,J _ (fun g=>rfl) (fun g _=>?_)⟩;have ht:=XO s W q1 q2 V.1 V.2 he g;subst c3;rw[D,M];cases b1;·simp[run_eqGuard_agg (P:=P) _ _ _ _ _ _ _ U,run_eql_struct,ht]
                    ·simp[run_eqGuard_agg (P:=P) _ _ _ _ _ _ _ U,run_neq_struct,ht]
                ·cases p
              cases op<;>simp only at j<;>(first|cases j|skip);·exact ee false rfl rfl rfl
              ·exact ee true rfl rfl rfl
            ·cases j
          ·cases j
        ·cases j
  |unOp op t x=>
    simp only[iL]at j;cases j;refine T (x:=x) (fun a e r=>?_) G;subst e;simp only[bV]at p;cases a<;>simp only[GO]at p<;>(first|cases p|skip)
    ·rename_i b;have D:=jG r;cases op<;>simp only at p<;>(first|cases p|skip);exact⟨_,.bool _,J _ (fun g=>rfl) (fun g _=>by rw[D];simp[Op.unary])⟩
    · rename_i k n;have D:=dK r;cases op<;>simp only at p<;>(first|cases p|skip);·exact⟨_,.int _ _,J _ (fun g=>rfl) (fun g _=>by rw[D];simp[Op.unary,Op.intArith])⟩
      ·exact⟨_,.int _ _,J _ (fun g=>rfl) (fun g _=>by rw[D];simp[Op.unary,Op.intBits])⟩|convert sT d x=>
    simp only[iL]at j;split at j
    ·rename_i k' k A I;cases j;refine T (x:=x) (fun a e r=>?_) G;subst e;cases a<;>simp only[bV]at p<;>(first|cases p|skip);have D:=dK r;exact⟨_,.int _ _,J _ (fun g=>rfl) (fun g _=>by rw[D];simp[convert,run_underlying A,run_underlying I,Conv.intToInt])⟩
    ·rename_i A I;cases j;refine T (x:=x) (fun a e r=>?_) G;subst e;cases a<;>simp only[bV]at p<;>(first|cases p|skip);have D:=eD r;exact⟨_,r,J _ (fun g=>rfl) (fun g _=>by rw[D];simp[convert,run_underlying A,run_underlying I])⟩
    ·cases j|fieldAddr sT x f=>
    simp only[iL]at j;split at j
    · rename_i fs s;split at j
      · rename_i Z f3;split at j
        · rename_i n Q;split at j;·cases j
          · rename_i o1;cases j;refine T (x:=x) (fun a e r=>?_) G;subst e;have c2:∀b o,q x=.pointer (some ⟨b,o,none⟩)->∀g,(Instr.fieldAt sT (q x) f).run P g=.ok (.pointer (some ⟨b,o+Z.offset,none⟩)) g:=by
              intro b o e g;rw[e];simp[Instr.fieldAt,run_underlying s,f3,Instr.sureAddr,fieldPlace,jC Q,o1,Addr.add_lit]
            cases a<;>simp only[bV]at p<;>(first|cases p|skip)
            ·rename_i l K;cases F:q x<;>rw[F]at r<;>(first|cases r|skip);rename_i b S;exact⟨_,.ptr l (K+Z.offset) b S,J _ (fun g=>rfl) (fun g _=>c2 b K F g)⟩
            ·rename_i e3 K;cases F:q x<;>rw[F]at r<;>(first|cases r|skip);rename_i b o L d1 d3;exact⟨_,.fptr e3 (K+Z.offset) b o L d1 d3,J _ (fun g=>rfl) (fun g _=>by rw[<-Nat.add_assoc];exact c2 b (o+K) F g)⟩
            ·rename_i l g3 i K;cases F:q x<;>rw[F]at r<;>(first|cases r|skip);rename_i rr S;exact⟨_,.eptr l g3 i (K+Z.offset) rr S,J _ (fun g=>rfl) (fun g _=>by rw[<-Nat.add_assoc];exact c2 rr.block (i*rr.size+K) F g)⟩
        ·cases j
      ·cases j
    ·cases j|field sT x f=>
    simp only[iL]at j;split at j
    · rename_i fs s;split at j
      · rename_i Z f3;split at j
        ·rename_i n f2 Q U;cases j;refine T (x:=x) (fun a e r=>?_) G;subst e;cases a<;>simp only[bV]at p<;>(first|cases p|skip);rename_i cs;obtain⟨L,D,q1⟩:=sJ r;have d2:=JP q1 Z.offset n;refine⟨_,LG p d2,J _ (fun g=>rfl) (fun g _=>?_)⟩;have V:=LF p;rw[d2.1]at V;rw[D];cases f2 with
          |true=>
            simp[Instr.field,run_underlying s,f3,asAgg,part,qI U,jC Q,mkC];apply kK;rw[QF];simp|false=>
            simp only[bM,bH]at V;cases hl:(L.toList.drop Z.offset).take n with
            |nil=>rw[hl]at V;simp at V|cons u p3=>
              have h0:L[Z.offset]?=some u:=by
                have:=zS (us:=L.toList) (off:=Z.offset) (size:=n) (j:=0) (u:=u) (by rw[hl];rfl);simpa using this
              simp[Instr.field,run_underlying s,f3,asAgg,part,qI U,h0,mkC]
        ·cases j
      ·cases j
    ·cases j|indexAddr t x i=>
    simp only[iL]at j;split at j
    · rename_i e s;split at j
      ·rename_i n Q;cases j;refine X (x:=x) (y:=i) (fun a b e E H=>?_) G;subst e;simp only[bV]at p;obtain⟨u,A,I⟩:=yT2 hi s Q E H p;exact⟨u,A,J _ (fun g=>rfl) (fun g _=>I g)⟩
      ·cases j
    · rename_i l2 e s;split at j
      · rename_i n Q;cases j;refine X (x:=x) (y:=i) (fun a b e E H=>?_) G;subst e;have c2:∀Y o k(m:Int),q x=.pointer (some ⟨Y,o,none⟩)->q i=.int k m->0<=m->m<l2->∀g,(Instr.indexAt t (q x) (q i)).run P g=.ok (.pointer (some ⟨Y,o+m.toNat*n,none⟩)) g:=by
          intro Y o k m D M h0 A g;rw[D,M];simp[Instr.indexAt,asIntOf,run_underlying s,Instr.sureAddr,h0,A,jC Q,Addr.add_lit]
        cases a<;>cases b<;>simp only[bV]at p<;>(first|cases p|skip)
        · rename_i l K k m;split at p
          ·rename_i b3;cases p;cases F:q x<;>rw[F]at E<;>(first|cases E|skip);rename_i Y S;exact⟨_,.ptr l (K+m.toNat*n) Y S,J _ (fun g=>rfl) (fun g _=>c2 Y K k m F (dK H) b3.1 b3.2.1 g)⟩
          ·cases p
        · rename_i e3 K k m;split at p
          ·rename_i b3;cases p;cases F:q x<;>rw[F]at E<;>(first|cases E|skip);rename_i Y o L d1 d3;exact⟨_,.fptr e3 (K+m.toNat*n) Y o L d1 d3,J _ (fun g=>rfl) (fun g _=>by rw[<-Nat.add_assoc];exact c2 Y (o+K) k m F (dK H) b3.1 b3.2.1 g)⟩
          ·cases p
      ·cases j
    ·cases j|index t x i=>
    simp only[iL]at j;split at j
    · rename_i s;cases j;refine X (x:=x) (y:=i) (fun a b e E H=>?_) G;subst e;cases a<;>cases b<;>simp only[bV]at p<;>(first|cases p|skip);rename_i sb k m;split at p
      · rename_i h0;split at p
        · rename_i c j3;cases p;refine⟨_,.int _ _,J _ (fun g=>rfl) (fun g _=>?_)⟩;rw[eD E,dK H];have U:(ByteArray.mk sb.toArray)[m.toNat]?=some c:=by
            have g2:m.toNat<(ByteArray.mk sb.toArray).size:=by rw[nB];exact(aF.1 j3).1
            rw[ByteArray.getElem?_lt' _ _ g2];have:(ByteArray.mk sb.toArray)[m.toNat]=sb[m.toNat]'(by rw[nB]at g2;exact g2):=by
              show sb.toArray[m.toNat]'(by simpa[nB]using g2)=_;simp
            rw[this,(aF.1 j3).2]
          simp[Instr.index,asIntOf,run_underlying s,h0,U]
        ·cases p
      ·cases p
    · rename_i l2 e s;split at j
      · rename_i n f2 Q U;cases j;refine X (x:=x) (y:=i) (fun a b e E H=>?_) G;subst e;cases a<;>cases b<;>simp only[bV]at p<;>(first|cases p|skip);rename_i cs k m;split at p
        ·rename_i b3;obtain⟨L,D,q1⟩:=sJ E;have d2:=JP q1 (m.toNat*n) n;refine⟨_,LG p d2,J _ (fun g=>rfl) (fun g _=>?_)⟩;have V:=LF p;rw[d2.1]at V;rw[D,dK H];cases f2 with
          |true=>
            simp[Instr.index,asIntOf,run_underlying s,b3,part,qI U,jC Q,mkC];apply kK;rw[QF];simp|false=>
            simp only[bM,bH]at V;cases hl:(L.toList.drop (m.toNat*n)).take n with
            |nil=>rw[hl]at V;simp at V|cons u p3=>
              have h0:L[m.toNat*n]?=some u:=by
                have:=zS (us:=L.toList) (off:=m.toNat*n) (size:=n) (j:=0) (u:=u) (by rw[hl];rfl);simpa using this
              simp[Instr.index,asIntOf,run_underlying s,b3,part,qI U,jC Q,h0,mkC]
        ·cases p
      ·cases j
    ·cases j|load t x=>
    simp only[iL]at j;split at j
    ·rename_i n f2 Q U;cases j;refine T (x:=x) (fun a e r=>?_) G;subst e;simp only[bV]at p;obtain⟨u,A,I⟩:=zL2 hi U Q r p;exact⟨u,A,J _ (fun g=>rfl) I⟩
    ·cases j|extract x i=>
    simp only[iL]at j;cases j;refine T (x:=x) (fun a e r=>?_) G;subst e;cases a<;>simp only[bV]at p<;>(first|cases p|skip);rename_i vs;cases F:q x<;>rw[F]at r<;>(first|cases r|skip);rename_i L hl hh;obtain⟨u,A,I⟩:=(show RelL C vs L.toList from⟨by simpa using hl,fun i c v j hv=>hh i c v j (by simpa using hv)⟩).get p;exact⟨u,I,J _ (fun g=>rfl) (fun g _=>by rw[F];simp at A;simp[Instr.extract,A])⟩|lookup t m k ok=>
    simp only[iL]at j;split at j
    · rename_i kt et s;have fin:∀(e:EK)(z:AV)(d:TypeDesc),(match e with|.s=>d=.string|.i=>∃c1,d=.int c1|.b=>d=.bool)->P.underlying kt=some d->sB P et=some z->ao=.look e ok z->xs=[m,k]->∃u,Rel C v u/\∀g,Below w.heap.size w g->(execOp q {N with op:=.lookup t m k ok}).run P g=.ok (.value u) g:=by
        rintro e z d hd W hz rfl rfl;refine X (x:=m) (y:=k) (fun a b e E H=>?_) G;subst e;obtain⟨u,A,I⟩:=yY1 hi s hd W hz E H p;exact⟨u,A,J _ (fun g=>rfl) I⟩
      split at j;·rename_i z W hz;cases j;exact fin .s z _ rfl W hz rfl rfl
      ·rename_i c1 z W hz;cases j;exact fin .i z _ ⟨c1,rfl⟩ W hz rfl rfl
      ·rename_i z W hz;cases j;exact fin .b z _ rfl W hz rfl rfl
      ·cases j
    ·cases j|makeFunc fn j2 f1=>
    cases fn<;>simp only[iL]at j<;>(first|cases j|skip);rename_i f;split at j
    · rename_i hf;cases j;simp only[bV,aE]at p;subst p;have n2:j2.map q=#[]:=by apply IH;simp[hf]
      refine⟨_,.fn f b2 (f1.map q) (by simpa using G.1) (fun i c u j s=>G.2 i c u j (by simpa using s)),fun g _=>?_⟩;simp[execOp,Instr.makeFunc,n2]
    · split at j
      · rename_i hf;split at j
        · rename_i x O;cases j;have i2:f1.map q=#[]:=by apply IH;simp[hf]
          have n3:j2=#[x]:=by rw[<-oE];simpa using O
          refine T (x:=x) (fun a e r=>?_) G;subst e;simp only[bV,aE]at p;subst p;refine⟨_,.mth f a (q x) r,fun g _=>?_⟩;simp[execOp,Instr.makeFunc,i2,n3]
        ·cases j
      ·cases j|makeInterface t x=>
    simp only[iL]at j;split at j;·cases j
    ·rename_i d o2 s;cases j;refine T (x:=x) (fun a e r=>?_) G;subst e;simp only[bV,aE]at p;subst p;refine⟨_,.iface t a _ r,J _ (fun g=>rfl) (fun g _=>?_)⟩;simp only[Instr.makeInterface,Sem.run_bind,run_underlying s,Result.andThen_ok];cases d<;>first|rfl|exact absurd rfl (o2 _)
    ·cases j|slice t x lo g1 mx=>
    simp only[iL]at j;have fin:∀j1,(match j1 with|none=>P.underlying t=some .string|some n=>∃e,P.underlying t=some (.slice e)/\dU P e=some n)->ao=.slc j1 lo.isSome g1.isSome mx.isSome->xs=x::(lo.toList++g1.toList++mx.toList)->∃u,Rel C v u/\∀g,Below w.heap.size w g->(execOp q {N with op:=.slice t x lo g1 mx}).run P g=.ok (.value u) g:=by
      rintro j1 l1 rfl rfl;cases b2 with
      |nil=>simp[RelL]at G|cons a as=>
        obtain⟨y,L,e,E,H⟩:=G.inv_cons;injection e with D M;subst D M;simp only[bV]at p;split at p
        · rename_i l r m m3;obtain⟨l',r',m',a1,a2,a3,rfl,rfl,rfl⟩:=ya1 H m3;have i1:∀u,Rel C v u->(∀g,(Instr.sliceAt t (q x) (bnd l') (bnd r') (bnd m')).run P g=.ok u g)->∃u,Rel C v u/\∀g,Below w.heap.size w g->(execOp q {N with op:=.slice t x lo g1 mx}).run P g=.ok (.value u) g:=fun u A I=>⟨u,A,J _ (fun g=>rfl) (fun g _=>by rw[a1,a2,a3];exact I g)⟩;unfold BG at p;split at p
          · rename_i sz ll g3 n;split at p
            · rename_i t1 t2 s3 wr n1;split at p
              ·rename_i j;obtain⟨rfl,rfl,q1,q2,q3,q4,q5⟩:=j;cases p;obtain⟨e,ht,hs⟩:=l1;cases m' with
                |some c1=>cases q1|none=>
                  rcases hi.ok ll _ n1 with⟨_,k2⟩|⟨r,s1,k1,k2,k3,k4,k5,k6,k7,k8,k9,k10,k11,k12,_⟩;·subst k2;simp at q5;subst q5;omega
                  ·generalize q x=yy at E i1;cases E with
                    |ownnil _ _ A=>rw[A]at k1;cases k1|own _ _ _ H A i2=>
                      rw[A]at k1;injection k1 with k1;cases k1;obtain⟨u,A,I⟩:=xF8 ht hs A i2 k12 l' r' q2 q3 q4;exact i1 u A I
              ·cases p
            ·cases p
          ·obtain⟨u,A,I⟩:=ya4 l1 E l' r' m' p;exact i1 u A I
        ·cases p
    split at j;·rename_i s;cases j;exact fin none s rfl rfl
    · rename_i e s;split at j;·rename_i n Q;cases j;exact fin (some n) ⟨e,s,Q⟩ rfl rfl
      ·cases j
    ·cases j|build t s2=>
    simp only[iL]at j;split at j
    · rename_i z pl hz o3;split at j
      ·rename_i qs hq;cases j;simp only[bV]at p;cases S:eB z qs b2 with
        |none=>simp[S]at p|some as=>
          simp only[S,dI,aE]at p;subst p;obtain⟨m2,A,I⟩:=yu2 hz o3 hq (ρ:=q) (by simpa[List.map_map,Function.comp_def]using G) S;exact⟨_,.agg as m2 (by simpa using A.1) (fun i c u j s=>A.2 i c u j (by simpa using s)),J _ (fun g=>rfl) (fun g _=>I g)⟩
      ·cases j
    ·cases j|nilCheck x=>
    simp only[iL]at j;cases j;refine T (x:=x) (fun a e r=>?_) G;subst e;cases a<;>simp only[bV]at p<;>(first|cases p|skip)
    ·cases F:q x<;>rw[F]at r<;>(first|cases r|skip);rename_i l K b S;exact⟨_,.ptr l K b S,fun g _=>by simp[execOp,F]⟩
    ·cases F:q x<;>rw[F]at r<;>(first|cases r|skip);rename_i e3 K b o L d1 d3;exact⟨_,.fptr e3 K b o L d1 d3,fun g _=>by simp[execOp,F]⟩
    ·cases F:q x<;>rw[F]at r<;>(first|cases r|skip);rename_i l g3 i K rr S;exact⟨_,.eptr l g3 i K rr S,fun g _=>by simp[execOp,F]⟩
    ·cases F:q x<;>rw[F]at r<;>(first|cases r|skip);rename_i f f1 vs hl hh;exact⟨_,.fn f f1 vs hl hh,fun g _=>by simp[execOp,F]⟩|call c=>
    obtain⟨m1,h3,l3⟩:=c;cases m1 with
    |builtin b=>
      cases b<;>simp only[iL]at j<;>(first|cases j|skip)
      · split at j
        · rename_i t x ht O;have et:l3=#[t]:=by apply kK;simpa using ht
          have ex:h3=#[x]:=by apply kK;simpa using O
          subst et ex;have fin:∀k,zm3 P t k->ao=.len k->xs=[x]->∃u,Rel C v u/\∀g,Below w.heap.size w g->(execOp q {N with op:=.call ⟨.builtin .len,#[x],#[t]⟩}).run P g=.ok (.value u) g:=by
            rintro k W rfl rfl;refine T (x:=x) (fun a e r=>?_) G;subst e;simp only[bV]at p;obtain⟨u,A,I⟩:=yX2 (ty:=N.type) hi r p W;exact⟨u,A,fun g p1=>by simp[execOp,resolve,invoke,builtin,I g p1]⟩
          split at j;·rename_i s;cases j;exact fin 0 s rfl rfl
          ·rename_i e s;cases j;exact fin 1 ⟨_,s⟩ rfl rfl
          ·rename_i c1 e s;cases j;exact fin 2 ⟨_,_,s⟩ rfl rfl
          ·cases j
        ·cases j
      · split at j
        · rename_i x y O;have ex:h3=#[x,y]:=by apply kK;simpa using O
          subst ex;cases j;refine X (x:=x) (y:=y) (fun a b e E H=>?_) G;subst e;simp only[bV]at p;obtain⟨k,m,n,rfl,rfl,rfl⟩:=yZ4 p;have D:=dK E;have M:=dK H;exact⟨_,.int _ _,fun g _=>by simp[execOp,resolve,invoke,builtin,D,M,Builtin.max_,Builtin.max2]⟩
        ·cases j
      · split at j
        · rename_i x y O;have ex:h3=#[x,y]:=by apply kK;simpa using O
          subst ex;cases j;refine X (x:=x) (y:=y) (fun a b e E H=>?_) G;subst e;simp only[bV]at p;obtain⟨k,m,n,rfl,rfl,rfl⟩:=xa1 p;have D:=dK E;have M:=dK H;exact⟨_,.int _ _,fun g _=>by simp[execOp,resolve,invoke,builtin,D,M,Builtin.min_,Builtin.min2]⟩
        ·cases j|value f=>simp[iL]at j|invoke r m=>simp[iL]at j
  |_=>simp[iL]at j
end
end Go.Proofs.YtpefhfiehfkocaaGreatDoor
