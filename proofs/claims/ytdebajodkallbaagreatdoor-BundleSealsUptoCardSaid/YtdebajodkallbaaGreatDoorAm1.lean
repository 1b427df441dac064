/- Abstract values,and how they stand to -/
import Derived.WalkKit
import Derived.Deep.Quiet
namespace Go.Proofs.YtdebajodkallbaaGreatDoor
open Go.RowKit
abbrev aV:=@List.getElem?_eq_some_iff
abbrev dJ:=@Option.map_eq_some_iff
abbrev dF:=@Prod.mk.injEq
abbrev gC:=@List.getElem?_append_left
abbrev IC:=@Option.bind_eq_some_iff
abbrev eW:=@Bool.false_and
abbrev dE:=@Bool.false_eq_true
abbrev bY:=@if_false
abbrev bD:=@if_true
abbrev iO:=@List.map_cons
abbrev xN:=@List.drop_eq_getElem_cons
abbrev mA:=@Nat.lt_or_ge
abbrev DP:=@List.drop_drop
abbrev fC:=@Option.map_some
abbrev aT:=@Option.some.injEq
abbrev gR:=@Nat.add_mul
abbrev oY:=@List.flatten_cons
abbrev tN:=@List.getElem?_map
abbrev fT:=@List.getElem?_append_right
abbrev fB:=@List.mem_of_getElem?
abbrev tO:=@List.mem_iff_getElem?
abbrev kQ:=@Nat.mul_le_mul_right
abbrev HU:=@List.flatten_append
abbrev oZ:=@List.take_append_drop
abbrev vF:=@List.mem_of_mem_take
abbrev AE:=@List.take_append
abbrev pA:=@List.take_of_length_le
abbrev AF:=@List.take_take
abbrev vH:=@Nat.min_eq_left
abbrev eR:=@Nat.zero_add
abbrev fZ:=@List.getElem?_take
abbrev vC:=@List.eq_nil_of_length_eq_zero
abbrev bX:=@List.length_append
abbrev dA:=@Nat.le_refl
abbrev kD:=@List.mem_append
abbrev vD:=@List.length_pos_iff
abbrev kZ:=@List.nil_append
abbrev gQ:=@List.length_nil
abbrev iY:=@List.getElem?_set
abbrev zZ:=@Array.getElem?_toList
abbrev zY:=@Array.getElem?_modify
abbrev DN:=@Array.getElem?_push
abbrev IB:=@Nat.eq_zero_or_pos
abbrev lX:=@List.getElem?_eq_none
abbrev qJ:=@List.all_cons
abbrev uX:=@Bool.and_true
abbrev rK:=@List.ext_getElem?
abbrev AJ:=@getElem!_pos
abbrev bS:=@Bool.and_eq_true
abbrev fU:=@decide_eq_true_eq
abbrev hJ:=@List.length_cons
abbrev xM:=@List.drop_append
abbrev NW:=@List.drop_of_length_le
abbrev fE:=@List.mem_cons
abbrev nE:=@Array.getElem?_eq_some_iff
abbrev kC:=@List.length_map
abbrev eF:=@Bool.true_and
abbrev lK:=@Bool.not_eq_true'
abbrev lY:=@List.length_take
abbrev kE:=@List.take_length
abbrev iF:=@Bool.not_false
abbrev nF:=@Bool.and_false
abbrev gV:=@List.all_eq_true
abbrev uZ:=@Bool.or_false
abbrev DO:=@BitVec.toNat_ofInt
abbrev iG:=@Int.toNat_natCast
abbrev AA:=@Int.tdiv_eq_ediv_of_nonneg
abbrev nV:=@List.getD_eq_getElem?_getD
abbrev jT:=@List.getElem?_eq_getElem
abbrev uY:=@Bool.false_or
abbrev tQ:=@Option.bind_some
abbrev tM:=@List.getElem?_cons_zero
abbrev mM:=@List.getElem?_cons_succ
abbrev qK:=@List.mem_cons_self
abbrev rO:=@List.mem_cons_of_mem
abbrev nG:=@Bool.not_true
abbrev AG:=@Option.any_some
abbrev AI:=@decide_eq_false_iff_not
abbrev tK:=@List.any_eq_true
abbrev dD:=@Bool.eq_false_or_eq_true
abbrev rL:=@List.length_set
abbrev nW:=@List.getElem?_drop
abbrev xL:=@Classical.byContradiction
abbrev xO:=@List.take_add_one
abbrev rP:=@UInt8.toNat_inj
abbrev ID:=@UInt8.toNat_ofNat'
abbrev NX:=@List.getElem?_eq_none_iff
abbrev nY:=@List.mem_map
abbrev kP:=@Array.ext'
abbrev NU:=@Array.eq_empty_of_size_eq_zero
abbrev nZ:=@Nat.zero_le
abbrev mN:=@List.mem_singleton
abbrev vB:=@List.drop_zero
abbrev qL:=@Nat.le_trans
abbrev HZ:=@List.pairwise_cons
abbrev HT:=@List.filter_cons
abbrev lM:=@List.mem_range
abbrev iN:=@List.append_assoc
abbrev NY:=@List.singleton_append
abbrev lA:=@List.take_zero
abbrev rM:=@List.map_nil
abbrev xK:=@Bool.or_eq_false_iff
abbrev kY:=@Int.natCast_zero
abbrev tL:=@List.cons_append
abbrev lZ:=@List.set_append_right
abbrev jI:=@List.getElem?_set_self
abbrev lL:=@List.getElem?_set_ne
abbrev dY:=@List.append_nil
abbrev jS:=@List.flatMap_nil
abbrev NV:=@Int.tmod_eq_emod_of_nonneg
abbrev mB:=@Nat.mul_one
abbrev tP:=@List.set_set
abbrev HW:=@List.map_eq_nil_iff
abbrev vE:=@List.length_singleton
abbrev HY:=@List.mem_or_eq_of_mem_set
abbrev AB:=@List.length_drop
abbrev IA:=@Nat.add_sub_cancel_left
abbrev TE:=@Array.getElem?_setIfInBounds_ne
abbrev nX:=@List.mem_filter
abbrev vG:=@Nat.lt_of_lt_of_le
abbrev xP:=@not_true_eq_false
abbrev oX:=@List.flatMap_cons
abbrev xJ:=@Bool.and_self
abbrev DQ:=@List.mem_of_mem_drop
abbrev HX:=@List.mem_filterMap
abbrev AC:=@List.length_filter_le
abbrev HV:=@List.getElem_mem
abbrev oW:=@Array.toList_inj
abbrev vA:=@List.contains_cons
inductive AV where|bool(b:Bool)|int(k:IntKind)(n:Int)|str(s:List UInt8)|agg(cs:List AV)|tup(vs:List AV)|sl(rows:List (List AV))|tsl(rows:List (List AV))|nils|own(l ver n:Nat)|win(l ver lo n:Nat)|ptr(l off:Nat)|fptr(row:List AV)(off:Nat)|eptr(l ver i off:Nat)|gptr(g off:Nat)|nilp|map(l:Nat)|nilm|fn(f:FuncId)(caps:List AV)|mth(f:FuncId)(v:AV)|nilf|iface(t:TypeId)(v:AV)|nili|yld(l:Nat)|junk deriving Inhabited
structure RowAt where
 block:Nat
 cap:Nat
 size:Nat
 elem:TypeId
 cv:Bool
def RowAt.fz(r:RowAt):Nat×Nat:=if r.cv then(r.cap*r.size,r.cap*r.size+1)else(0,0)
structure Cx where
 im:Nat->Nat->Option Value
 bl:Nat->Option Nat
 ar:Nat->Nat->Option (Option RowAt)
def Cx.pure(a:Nat->Nat->Option Value):Cx:=⟨a,fun _=>none,fun _ _=>none⟩
structure Cx.Le(C D:Cx):Prop where
 im:∀b o v,C.im b o=some v->D.im b o=some v
 bl:∀l b,C.bl l=some b->D.bl l=some b
 ar:∀l k r,C.ar l k=some r->D.ar l k=some r
theorem Cx.Le.refl(C:Cx):C.Le C:=⟨fun _ _ _ h=>h,fun _ _ h=>h,fun _ _ _ h=>h⟩
theorem Cx.Le.trans{C D E:Cx}(h:C.Le D)(k:D.Le E):C.Le E:=⟨fun b o v x=>k.im b o v (h.im b o v x),fun l b x=>k.bl l b (h.bl l b x),fun l v r x=>k.ar l v r (h.ar l v r x)⟩
def Cx.frozen(C:Cx):Cx:=Cx.pure C.im
theorem Cx.Le.frozen{C D:Cx}(h:C.Le D):C.frozen.Le D.frozen:=⟨h.im,(fun _ _ x=>by cases x),(fun _ _ _ x=>by cases x)⟩
theorem Cx.frozen_le(C:Cx):C.frozen.Le C:=⟨fun _ _ _ h=>h,(fun _ _ x=>by cases x),(fun _ _ _ x=>by cases x)⟩
inductive Rel:Cx->AV->Value->Prop|bool{C}(b:Bool):Rel C (.bool b) (.bool b)|int{C}(k:IntKind)(n:Int):Rel C (.int k n) (.int k n)|str{C}(s:List UInt8):Rel C (.str s) (.string ⟨s.toArray⟩)|agg{C}(cs:List AV)(vs:Array Value)(hl:cs.length=vs.size)(h:∀(i:Nat)c v,cs[i]?=some c->vs[i]?=some v->Rel C c v):Rel C (.agg cs) (.agg vs)|tup{C}(cs:List AV)(vs:Array Value)(hl:cs.length=vs.size)(h:∀(i:Nat)c v,cs[i]?=some c->vs[i]?=some v->Rel C c v):Rel C (.tup cs) (.tuple vs)|slnil{C}:Rel C (.sl []) (.slice none 0 0)|slz{C}(a:Addr)(cap:Nat):Rel C (.sl []) (.slice (some a) 0 cap)|sl{C:Cx}(rows:List (List AV))(b o cap size:Nat)(us:Nat->Nat->Value)(hcap:rows.length<=cap)(hsz:∀(i:Nat)row,rows[i]?=some row->row.length=size)(hc:∀(i:Nat)row(j:Nat)c,rows[i]?=some row->row[j]?=some c->C.im b (o+i*size+j)=some (us i j))(hr:∀(i:Nat)row(j:Nat)c,rows[i]?=some row->row[j]?=some c->Rel (Cx.pure C.im) c (us i j)):Rel C (.sl rows) (.slice (some ⟨b,o,none⟩) rows.length cap)|tsl{C:Cx}(rows:List (List AV))(b o size:Nat)(us:Nat->Nat->Value)(hsz:∀(i:Nat)row,rows[i]?=some row->row.length=size)(hc:∀(i:Nat)row(j:Nat)c,rows[i]?=some row->row[j]?=some c->C.im b (o+i*size+j)=some (us i j))(hr:∀(i:Nat)row(j:Nat)c,rows[i]?=some row->row[j]?=some c->Rel (Cx.pure C.im) c (us i j)):Rel C (.tsl rows) (.slice (some ⟨b,o,none⟩) rows.length rows.length)|tslnil{C}:Rel C (.tsl []) (.slice none 0 0)|tslz{C}(a:Addr):Rel C (.tsl []) (.slice (some a) 0 0)|nils{C}:Rel C .nils (.slice none 0 0)|ownnil{C:Cx}(l ver:Nat)(h:C.ar l ver=some none):Rel C (.own l ver 0) (.slice none 0 0)|own{C:Cx}(l ver n:Nat)(r:RowAt)(h:C.ar l ver=some (some r))(hn:n<=r.cap):Rel C (.own l ver n) (.slice (some ⟨r.block,0,none⟩) n r.cap)|win{C:Cx}(l ver lo n:Nat)(r:RowAt)(h:C.ar l ver=some (some r))(hn:lo+n<=r.cap):Rel C (.win l ver lo n) (.slice (some ⟨r.block,lo*r.size,none⟩) n (r.cap-lo))|ptr{C:Cx}(l off b:Nat)(h:C.bl l=some b):Rel C (.ptr l off) (.pointer (some ⟨b,off,none⟩))|fptr{C:Cx}(row:List AV)(off b o:Nat)(us:Nat->Value)(hc:∀(j:Nat)c,row[j]?=some c->C.im b (o+j)=some (us j))(hr:∀(j:Nat)c,row[j]?=some c->Rel (Cx.pure C.im) c (us j)):Rel C (.fptr row off) (.pointer (some ⟨b,o+off,none⟩))|eptr{C:Cx}(l ver i off:Nat)(r:RowAt)(h:C.ar l ver=some (some r)):Rel C (.eptr l ver i off) (.pointer (some ⟨r.block,i*r.size+off,none⟩))|gptr{C}(g off:Nat):Rel C (.gptr g off) (.pointer (some ⟨g,off,none⟩))|nilp{C}:Rel C .nilp (.pointer none)|map{C:Cx}(l b:Nat)(h:C.bl l=some b):Rel C (.map l) (.map (some b))|nilm{C}:Rel C .nilm (.map none)|fn{C}(f:FuncId)(caps:List AV)(vs:Array Value)(hl:caps.length=vs.size)(h:∀(i:Nat)c v,caps[i]?=some c->vs[i]?=some v->Rel C c v):Rel C (.fn f caps) (.func (.func f) #[] vs)|mth{C}(f:FuncId)(a:AV)(v:Value)(h:Rel C a v):Rel C (.mth f a) (.func (.func f) #[v] #[])|nilf{C}:Rel C .nilf .nilFunc|iface{C}(t:TypeId)(a:AV)(v:Value)(h:Rel C a v):Rel C (.iface t a) (.iface t v)|nili{C}:Rel C .nili .nilIface|yld{C:Cx}(l b:Nat)(h:C.bl l=some b):Rel C (.yld l) (.func (.yield b) #[] #[])|junk{C}(v:Value):Rel C .junk v
theorem Rel.mono{C D:Cx}{a:AV}{v:Value}(h:Rel C a v)(d:C.Le D):Rel D a v:=by induction h generalizing D with
 |bool b=>exact .bool b|int k n=>exact .int k n|str s=>exact .str s|agg I G A _ e=>exact .agg I G A fun i c v p E=>e i c v p E d|tup I G A _ e=>exact .tup I G A fun i c v p E=>e i c v p E d|slnil=>exact .slnil|slz a H=>exact .slz a H|sl L b o H M F O K p _ e=>exact .sl L b o H M F O K (fun i q j c m u=>d.im _ _ _ (p i q j c m u)) (fun i q j c m u=>e i q j c m u ⟨d.im,(fun _ _ x=>by cases x),(fun _ _ _ x=>by cases x)⟩)|tsl L b o M F K p _ e=>exact .tsl L b o M F K (fun i q j c m u=>d.im _ _ _ (p i q j c m u)) (fun i q j c m u=>e i q j c m u ⟨d.im,(fun _ _ x=>by cases x),(fun _ _ _ x=>by cases x)⟩)|tslnil=>exact .tslnil|tslz a=>exact .tslz a|nils=>exact .nils|ownnil l z h=>exact .ownnil l z (d.ar _ _ _ h)|own l z n r h J=>exact .own l z n r (d.ar _ _ _ h) J|win l z Q n r h J=>exact .win l z Q n r (d.ar _ _ _ h) J|ptr l y b h=>exact .ptr l y b (d.bl _ _ h)|fptr q y b o F p _ e=>exact .fptr q y b o F (fun j c m=>d.im _ _ _ (p j c m)) (fun j c m=>e j c m ⟨d.im,(fun _ _ x=>by cases x),(fun _ _ _ x=>by cases x)⟩)|eptr l z i y r h=>exact .eptr l z i y r (d.ar _ _ _ h)|gptr g y=>exact .gptr g y|nilp=>exact .nilp|map l b h=>exact .map l b (d.bl _ _ h)|nilm=>exact .nilm|fn f N G A _ e=>exact .fn f N G A fun i c v p E=>e i c v p E d|mth f a v _ e=>exact .mth f a v (e d)|nilf=>exact .nilf|iface t a v _ e=>exact .iface t a v (e d)|nili=>exact .nili|yld l b h=>exact .yld l b (d.bl _ _ h)|junk v=>exact .junk v
def RelL(C:Cx)(a:List AV)(b:List Value):Prop:=a.length=b.length/\∀(i:Nat)c v,a[i]?=some c->b[i]?=some v->Rel C c v
theorem RelL.mono{C D:Cx}{a:List AV}{b:List Value}(h:RelL C a b)(e:C.Le D):RelL D a b:=⟨h.1,fun i c v d f=>(h.2 i c v d f).mono e⟩
theorem RelL.nil{C:Cx}:RelL C [] []:=⟨rfl,fun i c v a=>by simp at a⟩
theorem RelL.cons{C:Cx}{a:AV}{v:Value}{e:List AV}{f:List Value}(h:Rel C a v)(k:RelL C e f):RelL C (a::e) (v::f):=by
 refine⟨by simp[k.1],fun i c u b d=>?_⟩;cases i with
 |zero=>simp at b d;subst b d;exact h|succ i=>simp at b d;exact k.2 i c u b d
theorem RelL.inv_cons{C:Cx}{a:AV}{e:List AV}{d:List Value}(h:RelL C (a::e) d):∃v b,d=v::b/\Rel C a v/\RelL C e b:=by cases d with
 |nil=>simp[RelL]at h|cons v b=>
  refine⟨v,b,rfl,h.2 0 a v rfl rfl,?_,fun i c u f g=>h.2 (i+1) c u (by simpa using f) (by simpa using g)⟩;have:=h.1;simp at this;exact this
theorem RelL.inv_nil{C:Cx}{a:List Value}(h:RelL C [] a):a=[]:=by cases a with
 |nil=>rfl|cons v b=>simp[RelL]at h
theorem RelL.append{C:Cx}{d e:List AV}{j g:List Value}(h:RelL C d j)(k:RelL C e g):RelL C (d++e) (j++g):=by
 refine⟨by simp[h.1,k.1],fun i c u a b=>?_⟩;by_cases f:i<d.length
 ·rw[gC f]at a;rw[gC (by rw[<-h.1];exact f)]at b;exact h.2 i c u a b
 ·rw[fT (by omega)]at a;rw[fT (by rw[<-h.1];omega),<-h.1]at b;exact k.2 _ c u a b
theorem RelL.take{C:Cx}{d:List AV}{e:List Value}(h:RelL C d e)(n:Nat):RelL C (d.take n) (e.take n):=by
 refine⟨by simp[h.1],fun i c u a b=>?_⟩;rw[fZ]at a b;split at a;·rename_i f;rw[if_pos f]at b;exact h.2 i c u a b
 ·cases a
theorem RelL.drop{C:Cx}{a:List AV}{e:List Value}(h:RelL C a e)(n:Nat):RelL C (a.drop n) (e.drop n):=by
 refine⟨by simp[h.1],fun i c u b d=>?_⟩;rw[nW]at b d;exact h.2 _ c u b d
theorem RelL.get{C:Cx}{b:List AV}{a:List Value}(h:RelL C b a){i:Nat}{c:AV}(d:b[i]?=some c):∃v,a[i]?=some v/\Rel C c v:=by
 have e:i<a.length:=by rw[<-h.1];exact(aV.1 d).1
 exact⟨a[i],by simp[e],h.2 i c _ d (by simp[e])⟩
theorem RelL.set{C:Cx}{f:List AV}{l:List Value}(h:RelL C f l)(i:Nat){a:AV}{v:Value}(k:Rel C a v):RelL C (f.set i a) (l.set i v):=by
  refine⟨by simp[h.1],fun j c u b d=>?_⟩;rw[iY]at b d;have:=h.1;by_cases e:i=j
  · subst e;simp only[bD]at b d;by_cases g:i<f.length
    ·rw[if_pos g]at b;rw[if_pos (by omega)]at d;injection b with b;injection d with d;subst b d;exact k
    ·rw[if_neg g]at b;cases b
  ·rw[if_neg e]at b d;exact h.2 j c u b d
def AV.cells:AV->List AV
 |.agg a=>a|.junk=>[]|v=>[v]
theorem IM{C:Cx}{a:AV}{v:Value}(h:Rel C a v)(g:a.cells≠[]):RelL C a.cells v.cells.toList:=by
 have d:=h;cases h with
 |agg b k f h=>exact⟨by show b.length=k.toList.length;simpa using f,fun i c u e j=>h i c u e (by simpa[Value.cells]using j)⟩|junk v=>exact absurd rfl g|_=>exact .cons d .nil
inductive MX where|normal|exit(id:Nat)|ret deriving Inhabited
inductive Blk where|cellsT(tg:Option TypeId)(vs:List AV)|arrX(ne:Bool)(tg:Option TypeId)(size ver:Nat)(rows:List (List AV))(wr:Bool)|map(es:List (AV×AV))|iter(s:List UInt8)(pos:Nat)|lp(busy:Bool)(x:MX)|mit(m:Option Nat)(n:Nat)(seen:List Nat)(last:Nat)|dead deriving Inhabited
@[match_pattern]abbrev Blk.arrT(tg:Option TypeId)(b c:Nat)(a:List (List AV))(wr:Bool):Blk:=.arrX false tg b c a wr
@[match_pattern]abbrev Blk.cells(a:List AV):Blk:=.cellsT none a
@[match_pattern]abbrev Blk.arr(b c:Nat)(a:List (List AV))(wr:Bool):Blk:=.arrT none b c a wr
abbrev aA:=List Blk
inductive EK where|b|i|s deriving Inhabited
inductive PK where|settle|nest|spare(m:Nat)|slot(p:Nat)|frzv deriving Inhabited
inductive AO where|bot|mv|pick|strid|bin(op:BinOp)|eqA(neg:Bool)(ks:List EK)|eqB(neg:Bool)|un(op:UnOp)|conv(k:IntKind)|fadr(off:Nat)|fld(off size:Nat)(agg:Bool)|iadr(size:Nat)|aadr(len size:Nat)|istr|iarr(len size:Nat)(agg:Bool)|ld(size:Nat)(agg:Bool)|len(k:Nat)|ext(i:Nat)|look(kind:EK)(ok:Bool)(zero:AV)|mkfn(f:FuncId)|mkmth(f:FuncId)|mkif(t:TypeId)|slc(size:Option Nat)(lo hi mx:Bool)|bld(zero:List AV)(parts:List (Nat×Nat))|min|max|nilck|alloc(zero:List AV)|box|st(size:Nat)|newnil(size:Nat)|mkmap|mapup(kind:EK)|mksl(zero:List AV)(bytes:Nat)|bsl(own:Bool)(size:Nat)|app(str:Bool)(size bytes:Nat)|rng|nxt|rngm|ent|lookA(ks:List EK)(ok:Bool)(zero:AV)|mapupA(ks:List EK)|call(f:FuncId)|callv|b2s|s2b|cpy(str:Bool)(size:Nat)|isnil(neg:Bool)|isnili(neg:Bool)|usd|ustr(e:TypeId)|allocB(t e:TypeId)|boxB(t e:TypeId)|appT(str:Bool)(size bytes:Nat)(e:TypeId)|slcf(size:Nat)(lo hi mx:Bool)|callg(f:FuncId)|bslK(own:Bool)(size:Nat)|pre(ks:List PK)(o:AO)deriving Inhabited
inductive At where|t(n:Nat)|c(v:AV)deriving Inhabited
structure MI where
 g:Option (Nat×Bool)dst:Option Nat
 kept:Bool
 o:AO
 args:List At deriving Inhabited
inductive R where|ok(env fr:List (Nat×AV))(h:aA)|bad deriving Inhabited
def lkp(t:Nat):List (Nat×AV)->Option AV
 |[]=>none|(k,v)::r=>if t=k then some v else lkp t r
def upd(t:Nat)(v:AV):List (Nat×AV)->List (Nat×AV)
 |[]=>[]|(k,x)::r=>if t=k then(k,v)::r else(k,x)::upd t v r
def bV(a b:List (Nat×AV))(t:Nat):Option AV:=match lkp t a with
 |some v=>some v|none=>lkp t b
def iD(e:Nat->Option AV):At->Option AV
 |.t n=>e n|.c v=>some v
def iU(e:Nat->Option AV):List At->Option (List AV)
 |[]=>some []|a::b=>match iD e a,iU e b with
  |some v,some c=>some (v::c)|_,_=>none
def fS(c:BinOp)(k:IntKind)(a b:Int):Option AV:=match c with
 |.add=>some (.int k (k.wrap (a+b)))|.sub=>some (.int k (k.wrap (a-b)))|.mul=>some (.int k (k.wrap (a*b)))|.quo=>if b=0 then none else some (.int k (k.wrap (a.tdiv b)))|.rem=>if b=0 then none else some (.int k (a.tmod b))|.and=>some (.int k (k.wrap (BitVec.ofInt k.bits a&&&BitVec.ofInt k.bits b).toNat))|.or=>some (.int k (k.wrap (BitVec.ofInt k.bits a|||BitVec.ofInt k.bits b).toNat))|.xor=>some (.int k (k.wrap (BitVec.ofInt k.bits a^^^BitVec.ofInt k.bits b).toNat))|.andNot=>some (.int k (k.wrap (BitVec.ofInt k.bits a&&&~~~BitVec.ofInt k.bits b).toNat))|.eql=>some (.bool (a==b))|.neq=>some (.bool (a !=b))|.lss=>some (.bool (decide (a<b)))|.leq=>some (.bool (decide (a<=b)))|.gtr=>some (.bool (decide (b<a)))|.geq=>some (.bool (decide (b<=a)))|_=>none
def dP:Nat:=1099511627776
def dV(c:BinOp)(a b:List UInt8):Option AV:=match c with
 |.add=>if a.length+b.length<=dP then some (.str (a++b))else none|.eql=>some (.bool (a==b))|.neq=>some (.bool (!(a==b)))|.lss=>some (.bool (Op.bytesLess a b))|.leq=>some (.bool (Op.bytesLess a b||a==b))|.gtr=>some (.bool (!(Op.bytesLess a b||a==b)))|.geq=>some (.bool (!(Op.bytesLess a b)))|_=>none
def aW(c:BinOp):AV->AV->Option AV
 |.int k a,.int d b=>if c=.shl\/c=.shr then(if b<0 then none else some (.int k (if c=.shl then k.wrap (a*2^(Nat.min b.toNat k.bits))else a.fdiv (2^(Nat.min b.toNat k.bits)))))else if k=d then fS c k a b else none|.str a,.str b=>dV c a b|_,_=>none
def CM(a:UnOp):AV->Option AV
 |.bool b=>match a with|.not=>some (.bool (!b))|_=>none
 |.int k n=>match a with
  |.neg=>some (.int k (k.wrap (0-n)))|.xor=>some (.int k (k.wrap (BitVec.ofInt k.bits (if k.signed then-1 else k.max)^^^BitVec.ofInt k.bits n).toNat))|_=>none
 |_=>none
def gX:List EK->List AV->List AV->Option Bool
 |[],[],[]=>some true|.i::c,.int k a::x,.int d b::y=>if k=d then(if a=b then gX c x y else some false)else none|.s::c,.str a::x,.str b::y=>if a=b then gX c x y else some false|.b::c,.bool a::x,.bool b::y=>if a=b then gX c x y else some false|_,_,_=>none
def aE(b:Bool)(c:Nat)(a:List AV):Option AV:=if b then(if a.length=c then some (.agg a)else none)else match a with
 |[v]=>some v|_=>none
def cut(a:List AV)(b c:Nat):List AV:=(a.drop b).take c
def bK:List AV->Nat->List AV->List AV
 |a,_,[]=>a|a,b,c::d=>bK (a.set b c) (b+1) d
def aB(a:Nat)(c:Bool)(h:aA):AV->Option AV
 |.ptr l b=>match h[l]? with
  |some (.cellsT _ j)=>aE c a (cut j b a)|_=>none
 |.fptr d b=>aE c a (cut d b a)|.eptr l f i b=>match h[l]? with
  |some (.arrX _ _ _ g e _)=>if f=g then(match e[i]? with
   |some d=>aE c a (cut d b a)|none=>none)else none|_=>none
 |_=>none
def rowsOf(h:aA):AV->Option (List (List AV))
 |.sl a=>some a|.tsl a=>some a|.nils=>some []|.own l b n=>match h[l]? with
  |some (.arrT _ _ c a _)=>if b=c/\n<=a.length then some (a.take n)else none|_=>none
 |_=>none
def bA(c:Nat)(h:aA):AV->AV->Option AV
 |.sl b,.int _ i=>if 0<=i then(match b[i.toNat]? with
  |some a=>if a.length=c then some (.fptr a 0)else none|none=>none)else none|.tsl b,.int _ i=>if 0<=i then(match b[i.toNat]? with
  |some a=>if a.length=c then some (.fptr a 0)else none|none=>none)else none|.own l d n,.int _ i=>match h[l]? with
  |some (.arrX _ _ _ e b _)=>if d=e/\n<=b.length/\0<=i/\i<n then(match b[i.toNat]? with
   |some a=>if a.length=c then some (.eptr l d i.toNat 0)else none|none=>none)else none|_=>none
 |_,_=>none
def FW(h:aA)(l c a n:Nat):Option (List (List AV)):=match h[l]? with
 |some (.arrT _ _ d b _)=>if c=d/\a+n<=b.length then some ((b.drop a).take n)else none|_=>none
def aI(h:aA):Nat->AV->Option AV
 |0,.str s=>some (.int .i64 s.length)|1,.sl a=>some (.int .i64 a.length)|1,.tsl a=>some (.int .i64 a.length)|1,.nils=>some (.int .i64 0)|1,.own _ _ n=>some (.int .i64 n)|2,.map l=>match h[l]? with
  |some (.map b)=>some (.int .i64 b.length)|_=>none
 |2,.nilm=>some (.int .i64 0)|_,_=>none
def vU:EK->AV->AV->Option Bool
 |.s,.str a,.str b=>some (a==b)|.i,.int k a,.int c b=>if k=c then some (a==b)else none|.b,.bool a,.bool b=>some (a==b)|_,_,_=>none
def yH(e:EK)(k:AV):List (AV×AV)->Option (Option AV)
 |[]=>some none|(a,v)::r=>match vU e k a with
  |some true=>some (some v)|some false=>yH e k r|none=>none
def vW(e:EK)(k v:AV):List (AV×AV)->Option (List (AV×AV))
 |[]=>some [(k,v)]|(a,u)::r=>match vU e k a with
  |some true=>some ((a,v)::r)|some false=>(vW e k v r).map ((a,u)::·)|none=>none
def isKey:EK->AV->Bool
 |.s,.str _=>true|.i,.int _ _=>true|.b,.bool _=>true|_,_=>false
def yN:List EK->List AV->Bool
 |[],[]=>true|k::c,a::b=>isKey k a&&yN c b|_,_=>false
def xH(a:List EK)(b:List AV):List (AV×AV)->Option (Option AV)
 |[]=>some none|(.agg c,v)::r=>if c.length=a.length then(match gX a b c with
  |some true=>some (some v)|some false=>xH a b r|none=>none)else none|_=>none
def xI(c:List EK)(b:List AV)(v:AV):List (AV×AV)->Option (List (AV×AV))
 |[]=>some [(.agg b,v)]|(.agg a,u)::r=>if a.length=c.length then(match gX c b a with
  |some true=>some ((.agg a,v)::r)|some false=>(xI c b v r).map ((.agg a,u)::·)|none=>none)else none|_=>none
def oN(b:Bool)(a:List AV):Option (Option Int×List AV):=if b then(match a with
 |.int _ n::r=>some (some n,r)|_=>none)else some (none,a)
def pV(e d f:Bool)(c:List AV):Option (Option Int×Option Int×Option Int):=match oN e c with
 |some (l,a)=>match oN d a with
  |some (r,b)=>match oN f b with
   |some (m,[])=>some (l,r,m)|_=>none
  |none=>none
 |none=>none
def dB(n:Nat):List (List AV)->Bool
 |[]=>true|r::a=>r.length=n&&dB n a
def CB(s:List UInt8)(b a:Option Int):Option AV:=if 0<=b.getD 0/\b.getD 0<=a.getD s.length/\a.getD s.length<=s.length then some (.str ((s.take (a.getD s.length).toNat).drop (b.getD 0).toNat))else none
def wN(d:Nat)(a:List (List AV))(b c:Option Int):Option Int->Option AV
 |none=>if 0<=b.getD 0/\b.getD 0<=c.getD a.length/\c.getD a.length<=a.length/\dB d a then some (.sl ((a.take (c.getD a.length).toNat).drop (b.getD 0).toNat))else none|some m=>if c=some m/\0<=b.getD 0/\b.getD 0<=m/\m<=a.length/\dB d a then some (.tsl ((a.take m.toNat).drop (b.getD 0).toNat))else none
def pT(e:Option Nat)(x:AV)(b a c:Option Int):Option AV:=match e,x with
 |none,.str s=>if c.isNone then CB s b a else none|some n,.sl d=>wN n d b a c|some n,.tsl d=>if c.isNone then wN n d b a none else none|some _,.nils=>if c.isNone/\b.getD 0=0/\a.getD 0=0 then some .nils else none|_,_=>none
def eO:List AV->List (Nat×Nat)->List AV->Option (List AV)
 |a,[],[]=>some a|a,(c,b)::d,v::e=>if v.cells.length=b/\0<b/\c+b<=a.length then eO (bK a c v.cells) d e else none|_,_,_=>none
def WG:AV->AV->Option AV
 |.int k x,.int a y=>if k=a then some (.int k (if y<x then y else x))else none|_,_=>none
def QQ:AV->AV->Option AV
 |.int k x,.int a y=>if k=a then some (.int k (if x<y then y else x))else none|_,_=>none
def lP:List (List AV)->Option (List UInt8)
 |[]=>some []|[.int .u8 n]::r=>if 0<=n/\n<256 then(lP r).map (UInt8.ofNat n.toNat::·)else none|_=>none
def FR:AV->Option Bool
 |.nili=>some false|.iface _ _=>some true|_=>none
def there:AV->Option Bool
 |.nils=>some false|.sl (_::_)=>some true|.tsl (_::_)=>some true|.own _ _ (_+1)=>some true|_=>none
def AY(h:aA)(l:Nat):Option AV:=match h[l]? with
 |some (.mit (some m) _ seen b)=>(match seen.getLast?,h[m]? with
  |some i,some (.map a)=>if a.length=b then(match a[i]? with
   |some (k,v)=>some (.tup [k,v])|none=>none)else none|_,_=>none)|_=>none
def mV(h:aA)(l:Nat):Option (List (AV×aA)):=match h[l]? with
 |some (.mit none _ _ _)=>some [(.tup [.bool false],h.set l .dead)]|some (.mit (some m) n seen c)=>(match h[m]? with
  |some (.map a)=>if a.length=n/\c=n then(match(List.range n).filter fun i=>!seen.contains i with
   |[]=>some [(.tup [.bool false],h.set l .dead)]|i::b=>some ((i::b).map fun i=>(.tup [.bool true,(a[i]?.getD (.junk,.junk)).1,(a[i]?.getD (.junk,.junk)).2],h.set l (.mit (some m) n (seen++[i]) n))))else none|_=>none)|_=>none
def CA(d:Option Nat)(h:aA)(x:AV)(a b c:Option Int):Option AV:=match d,x with
 |some g,.own l e n=>match h[l]? with
  |some (.arrT _ i j f _)=>if i=g/\j=e/\c=none/\0<=a.getD 0/\a.getD 0<b.getD n/\b.getD n<=n/\n<=f.length then some (.win l e (a.getD 0).toNat (b.getD n-a.getD 0).toNat)else none|_=>none
 |_,_=>pT d x a b c
@[simp]theorem xN3{h:aA}{s:List UInt8}{b a c:Option Int}:CA none h (.str s) b a c=pT none (.str s) b a c:=rfl
@[simp]theorem xN2{h:aA}{n:Nat}{d:List (List AV)}{b a c:Option Int}:CA (some n) h (.sl d) b a c=pT (some n) (.sl d) b a c:=rfl
@[simp]theorem xN4{h:aA}{n:Nat}{d:List (List AV)}{b a c:Option Int}:CA (some n) h (.tsl d) b a c=pT (some n) (.tsl d) b a c:=rfl
@[simp]theorem xN1{h:aA}{n:Nat}{b a c:Option Int}:CA (some n) h .nils b a c=pT (some n) .nils b a c:=rfl
def dH(h:aA):AO->List AV->Option AV
 |.mv,[x]=>some x|.pick,[.bool c,x,y]=>some (if c then x else y)|.strid,[.str s]=>some (.str s)|.bin I,[x,y]=>aW I x y|.eqA q u,[.agg L,.agg M]=>if L.length=u.length/\M.length=u.length then(gX u L M).map fun b=>.bool (if q then !b else b)else none|.eqB q,[.bool x,.bool y]=>some (.bool (if q then !(x==y)else x==y))|.un I,[x]=>CM I x|.conv k,[.int _ n]=>some (.int k (k.wrap n))|.fadr o,[.ptr l d]=>some (.ptr l (d+o))|.fadr o,[.fptr E d]=>some (.fptr E (d+o))|.fadr o,[.eptr l A i d]=>some (.eptr l A i (d+o))|.fld d g D,[.agg G]=>aE D g (cut G d g)|.iadr g,[x,i]=>bA g h x i|.aadr p g,[.ptr l d,.int _ i]=>if 0<=i/\i<p/\2<=p then some (.ptr l (d+i.toNat*g))else none|.aadr p g,[.fptr E d,.int _ i]=>if 0<=i/\i<p/\2<=p then some (.fptr E (d+i.toNat*g))else none|.istr,[.str s,.int _ i]=>if 0<=i then(match s[i.toNat]? with
  |some b=>some (.int .u8 b.toNat)|none=>none)else none|.iarr p g D,[.agg G,.int _ i]=>if 0<=i/\i<p then aE D g (cut G (i.toNat*g) g)else none|.ld g D,[a]=>aB g D h a|.len k,[x]=>aI h k x|.ent,[.ptr l 0]=>AY h l|.lookA u z j,[m,.agg K]=>if K.length=u.length then(match m with
  |.map l=>(match h[l]? with
   |some (.map H)=>(xH u K H).map fun r=>if z then .tup [r.getD j,.bool r.isSome]else r.getD j|_=>none)|.nilm=>some (if z then .tup [j,.bool false]else j)|_=>none)else none|.ext i,[.tup J]=>J[i]?|.look e z j,[m,k]=>if isKey e k then match m with
   |.map l=>match h[l]? with
    |some (.map H)=>(yH e k H).map fun
     |some v=>if z then .tup [v,.bool true]else v|none=>if z then .tup [j,.bool false]else j
    |_=>none
   |.nilm=>some (if z then .tup [j,.bool false]else j)|_=>none else none|.mkfn f,F=>some (.fn f F)|.mkmth f,[x]=>some (.mth f x)|.mkif t,[x]=>some (.iface t x)|.slc g Q O S,x::N=>match pV Q O S N with
  |some (l,r,m)=>CA g h x l r m|none=>none
 |.bld j T,J=>(eO j T J).map .agg|.min,[x,y]=>WG x y|.max,[x,y]=>QQ x y|.nilck,[.ptr l d]=>some (.ptr l d)|.nilck,[.fptr E d]=>some (.fptr E d)|.nilck,[.eptr l A i d]=>some (.eptr l A i d)|.nilck,[.fn f F]=>some (.fn f F)|.b2s,[x]=>match rowsOf h x with
  |some U=>(lP U).map .str|none=>none
 |.isnil q,[x]=>(there x).map fun b=>.bool (if q then b else !b)|.usd,[.nils]=>some .nilp|.usd,[.own l A n]=>if n=0 then(match h[l]? with
   |some (.arrT (some _) _ V [] _)=>if A=V then some .nilp else none|_=>none)else some (.eptr l A 0 0)|.isnili q,[x]=>(FR x).map fun b=>.bool (if q then b else !b)|_,_=>none
def FO(d:Nat)(x:AV)(b a c:Option Int):Option AV:=match x with
 |.own l e n=>if c.isNone/\b.getD 0=0/\0<=a.getD n/\a.getD n<=n then some (.own l e (a.getD n).toNat)else none|_=>pT (some d) x b a c
mutual def view(h:aA):AV->Option AV
 |.bool b=>some (.bool b)|.int k n=>some (.int k n)|.str s=>some (.str s)|.agg j=>(bU h j).map .agg|.sl c=>some (.sl c)|.tsl c=>some (.sl c)|.nils=>some (.sl [])|.own l d n=>(rowsOf h (.own l d n)).map .sl|.win l d m n=>(FW h l d m n).map .sl|.fptr p o=>some (.fptr p o)|.nilp=>some .nilp|.nilm=>some .nilm|.nilf=>some .nilf|.nili=>some .nili|.fn f i=>(bU h i).map (.fn f)|.iface t v=>(view h v).map (.iface t)|.tup e=>(bU h e).map .tup|_=>none def bU(h:aA):List AV->Option (List AV)
 |[]=>some []|a::g=>match view h a,bU h g with
  |some v,some e=>some (v::e)|_,_=>none end
mutual def gB(h:aA):AV->Option AV
 |.bool b=>some (.bool b)|.int k n=>some (.int k n)|.str s=>some (.str s)|.agg i=>(rB h i).map .agg|.sl c=>some (.sl c)|.tsl c=>some (.tsl c)|.nils=>some .nils|.own l o n=>(rowsOf h (.own l o n)).map .sl|.fptr m j=>some (.fptr m j)|.nilp=>some .nilp|.nilm=>some .nilm|.nilf=>some .nilf|.nili=>some .nili|.fn f g=>(rB h g).map (.fn f)|.iface t v=>(gB h v).map (.iface t)|.tup d=>(rB h d).map .tup|_=>none def rB(h:aA):List AV->Option (List AV)
 |[]=>some []|a::e=>match gB h a,rB h e with
  |some v,some d=>some (v::d)|_,_=>none end
mutual def owns:AV->List Nat
 |.own l _ _=>[l]|.win l _ _ _=>[l]|.agg d=>dX d|.fn _ c=>dX c|.mth _ v=>owns v|.iface _ v=>owns v|.tup e=>dX e|_=>[]def dX:List AV->List Nat
 |[]=>[]|a::b=>owns a++dX b end
def mI(h:aA)(l:Nat):aA:=match h[l]? with
 |some (.arrT tg n b a _)=>h.set l (.arrT tg n b a false)|_=>h
def eS(h:aA):List Nat->aA
 |[]=>h|l::a=>eS (mI h l) a
def frz(h:aA)(v:AV):Option (AV×aA):=(view h v).map fun u=>(u,eS h (owns v))
def yB(h:aA)(a:List AV):Option (List AV×aA):=(bU h a).map fun b=>(b,eS h (dX a))
def EF(h:aA)(v:AV):Option (AV×aA):=(gB h v).map fun u=>(u,eS h (owns v))
def PT(h:aA)(a:List AV):Option (List AV×aA):=(rB h a).map fun b=>(b,eS h (dX a))
def sQ(h:aA):List (List AV)->Option (List (List AV))
 |[]=>some []|r::a=>match bU h r,sQ h a with
  |some v,some b=>some (v::b)|_,_=>none
def YL(h:aA):AV->Option aA
 |.own l _ _=>match h[l]? with
  |some (.arrX true tg c d a wr)=>(sQ h a).map fun b=>(eS h (dX a.flatten)).set l (.arrX false tg c d b wr)|_=>some h
 |_=>some h
def yU(h:aA):List AV->Option aA
 |[]=>some h|a::b=>match YL h a with
  |some c=>yU c b|none=>none
def BP(k:PK)(h:aA)(b:List AV):Option (aA×List AV):=match k with
 |.settle=>(yU h b).map fun e=>(e,b)|.nest=>match b with
  |[.eptr l c i f,v]=>match h[l]? with
   |some (.arrX false tg d j g true)=>if(owns v).isEmpty then some (h,b)else some (h.set l (.arrX true tg d j g true),[.eptr l c i f,v])|_=>some (h,b)
  |_=>some (h,b)
 |.frzv=>match b with
  |[a,v]=>(frz h v).map fun r=>(r.2,[a,r.1])|_=>none
 |.spare m=>some (h++[.arr m 0 [] true],b)|.slot p=>match b with
  |.nils::r=>match h[p]? with
   |some (.arrX false _ d c _ _)=>some (h.set p (.arr d (c+1) [] true),.own p (c+1) 0::r)|_=>none
  |_=>some (h,b)
def wB:List PK->aA->List AV->Option (aA×List AV)
 |[],h,a=>some (h,a)|k::c,h,a=>match BP k h a with
  |some (b,d)=>wB c b d|none=>none
def FN(d:Nat)(h:aA)(x:AV)(b a c:Option Int):Option (AV×aA):=match FO d x b a c with
 |some v=>some (v,h)|none=>match x with
  |.own l g n=>match frz h (.own l g n)with
   |some (.sl f,e)=>(wN d f b a c).map fun v=>(v,e)|_=>none
  |_=>none
mutual def scalar:AV->Bool
 |.bool _|.int _ _|.str _=>true|.tup c=>RT c|_=>false def RT:List AV->Bool
 |[]=>true|a::b=>scalar a&&RT b end
abbrev RdF:=Nat->aA->Option (Option (List AV)×aA)
abbrev ItF:=List AV->aA->RdF
inductive CT where|pure(F:List AV->Option AV)|gen(F:List AV->aA->Option (AV×aA))|iter(F:ItF)
structure Gam where
 fn:FuncId->Option CT
 y:Nat->List AV->aA->Option (AV×aA)
instance:CoeFun Gam (fun _=>FuncId->Option CT):=⟨Gam.fn⟩
def eD(G:Gam)(f:FuncId)(a:List AV)(h:aA):Option (AV×aA):=match G f with
 |some (.pure F)=>match bU h a with
  |some b=>match F b with
   |some r=>if scalar r then some (r,h)else some (r,eS h (dX a))|none=>none
  |none=>none
 |some (.gen F)=>F a h|_=>none
def bE:AV->Bool
 |.agg _|.tup _|.junk=>false|_=>true
def fW:List (List AV)->Bool
 |[]=>true|r::a=>r.all bE&&fW a
def kF(h:aA)(a:Bool)(x:AV):Option (List (List AV)):=if a then(match x with
 |.str s=>some (s.map fun b=>[.int .u8 b.toNat])|_=>none)else rowsOf h x
def bT:Nat:=140737488355328
def sN(tg a:Option TypeId):Option TypeId:=if tg=a then a else none
@[simp]theorem xr8(tg:Option TypeId):sN tg none=none:=by unfold sN;split<;>rfl
@[simp]theorem xr9(tg:Option TypeId):sN tg tg=tg:=by simp[sN]
def lN(e:Option TypeId)(c bytes:Nat)(h:aA)(s:AV)(a:List (List AV)):Option (AV×aA):=match s with
 |.own l d n=>match h[l]? with
  |some (.arrT tg f g b wr)=>if d=g/\n=b.length/\wr=true/\f=c then(if a=[]then some (.own l d n,h)else if(n+a.length)*bytes<=bT/\n+a.length<=bT then some (.own l (d+a.length) (n+a.length),h.set l (.arrT (sN tg e) c (d+a.length) (b++a) true))else none)else none|_=>none
 |.nils=>if a=[]then some (.nils,h)else if a.length*bytes<=bT/\a.length<=bT then some (.own h.length 0 a.length,h++[.arrT e c 0 a true])else none|.tsl b=>if a=[]then some (.tsl b,h)else if(b.length+a.length)*bytes<=bT/\b.length+a.length<=bT/\dB c b then some (.own h.length 0 (b.length+a.length),h++[.arrT e c 0 (b++a) true])else none|_=>none
def aU(c:Nat)(h:aA)(a v:AV):Option aA:=if v.cells.length=c/\0<c/\v.cells.all bE then match a with
 |.ptr l b=>match h[l]? with
  |some (.cellsT tg m)=>if b+c<=m.length then some (h.set l (.cellsT tg (bK m b v.cells)))else none|_=>none
 |.eptr l f i b=>match h[l]? with
  |some (.arrX true tg g j e true)=>if f=j then(match e[i]? with
    |some d=>if b+c<=d.length then some (h.set l (.arrX true tg g f (e.set i (bK d b v.cells)) true))else none|none=>none)else none|_=>match frz h v with
   |some (u,k)=>match k[l]? with
    |some (.arrT tg g j e true)=>if f=j then(match e[i]? with
     |some d=>if b+c<=d.length/\u.cells.length=c/\u.cells.all bE then some (k.set l (.arrT tg g f (e.set i (bK d b u.cells)) true))else none|none=>none)else none|_=>none
   |none=>none
 |_=>none else none
def zk2(t e:TypeId)(h:aA):AV->Option (AV×aA)
 |.agg [.nilp,.nils]=>some (.ptr (h.length+1) 0,h++[.arrT (some e) 1 0 [] true]++[.cellsT (some t) [.nilp,.own h.length 0 0]])|_=>none
def cG(G:Gam)(h:aA):AO->List AV->Option (AV×aA)
 |.alloc D,[]=>some (.ptr h.length 0,h++[.cells D])|.box,[v]=>match v.cells with
  |[]=>none|c::M=>some (.ptr h.length 0,h++[.cells (c::M)])
 |.st d,[a,v]=>(aU d h a v).map fun N=>(.junk,N)|.newnil d,[]=>some (.own h.length 0 0,h++[.arr d 0 [] true])|.mkmap,[]=>some (.map h.length,h++[.map []])|.mapup e,[.map l,k,v]=>if isKey e k then(match frz h v with
  |some (u,g)=>match g[l]? with
   |some (.map p)=>(vW e k u p).map fun H=>(.junk,g.set l (.map H))|_=>none
  |none=>none)else none|.mapupA I,[.map l,.agg E,v]=>if yN I E/\E.length=I.length then(match frz h v with
  |some (u,g)=>match g[l]? with
   |some (.map p)=>(xI I E u p).map fun H=>(.junk,g.set l (.map H))|_=>none
  |none=>none)else none|.mksl D bytes,[.int _ n,.int _ c]=>if 0<=n/\n<=c/\c.toNat*bytes<=bT/\c.toNat<=bT then some (.own h.length 0 n.toNat,h++[.arr D.length 0 (List.replicate n.toNat D) true])else none|.bsl own d,K=>match yB h K with
  |some (i,g)=>if dB d (i.map AV.cells)/\fW (i.map AV.cells)/\0<d/\i.length*d<=16777216 then(if own then some (.own g.length 0 i.length,g++[.arr d 0 (i.map AV.cells) true])else some (.tsl (i.map AV.cells),g))else none|none=>none
 |.bslK own d,K=>match PT h K with
  |some (i,g)=>if dB d (i.map AV.cells)/\fW (i.map AV.cells)/\0<d/\i.length*d<=16777216 then(if own then some (.own g.length 0 i.length,g++[.arr d 0 (i.map AV.cells) true])else some (.tsl (i.map AV.cells),g))else none|none=>none
 |.app z d bytes,[s,x]=>match kF h z x with
  |some q=>if dB d q then lN none d bytes h s q else none|none=>none
 |.appT z d bytes e,[s,x]=>match kF h z x with
  |some q=>if dB d q then lN (some e) d bytes h s q else none|none=>none
 |.boxB t e,[a]=>zk2 t e h a|.allocB t e,[]=>some (.ptr (h.length+1) 0,h++[.arrT (some e) 1 0 [] true]++[.cellsT (some t) [.nilp,.own h.length 0 0]])|.ustr _,[.nilp,.int .i64 n]=>if n=0 then some (.str [],h)else none|.ustr e,[.eptr l A 0 0,.int .i64 n]=>match h[l]? with
  |some (.arrT tg 1 J o true)=>if tg=some e/\A=J/\0<o.length/\n=o.length/\o.length<=bT then(lP o).map fun F=>(.str F,h.set l .dead)else none|_=>none
 |.nxt,[.ptr l 0]=>match h[l]? with
  |some (.iter s y)=>if y<s.length then some (.tup [.bool true,.int .i64 y,.int .i32 (Utf8.decode ⟨s.toArray⟩ y).1],h.set l (.iter s (y+(Utf8.decode ⟨s.toArray⟩ y).2)))else some (.tup [.bool false],h)|_=>none
 |.rng,[.str s]=>some (.ptr h.length 0,h++[.iter s 0])|.rngm,[.map m]=>match h[m]? with
  |some (.map p)=>some (.ptr h.length 0,h++[.mit (some m) p.length [] p.length])|_=>none
 |.rngm,[.nilm]=>some (.ptr h.length 0,h++[.mit none 0 [] 0])|.call f,j=>eD G f j h|.callg f,j=>eD G f j h|.callv,.fn f L::j=>eD G f (j++L) h|.callv,.mth f v::j=>eD G f (v::j) h|.callv,.yld k::j=>G.y k j h|.slcf d Q O S,x::F=>match pV Q O S F with
  |some (l,r,m)=>FN d h x l r m|none=>none
 |.s2b,[.str s]=>if s.length<=bT then some (.own h.length 0 s.length,h++[.arr 1 0 (s.map fun b=>[AV.int .u8 b.toNat]) true])else none|.cpy z d,[.own l A n,x]=>match kF h z x with
  |some sr=>if dB d sr then(if sr=[]then some (.int .i64 0,h)else(match h[l]? with
   |some (.arrT tg T J o true)=>if A=J/\n<=o.length/\sr.length<=n/\T=d then some (.int .i64 sr.length,h.set l (.arrT tg d A (sr++o.drop sr.length) true))else none|_=>none))else none|none=>none
 |_,_=>none
def AO.quiet:AO->Bool
 |.alloc _|.box|.st _|.newnil _|.mkmap|.mapup _|.mapupA _|.mksl _ _|.bsl _ _|.app _ _ _|.rng|.rngm|.nxt|.call _|.callv|.cpy _ _|.slcf _ _ _ _|.callg _|.appT _ _ _ _|.allocB _ _|.boxB _ _|.ustr _|.bslK _ _|.s2b|.pre _ _=>false|_=>true
def dN(G:Gam)(h:aA)(o:AO)(a:List AV):Option (AV×aA):=if o.quiet then(match dH h o a with
 |some v=>some (v,h)|none=>none)else cG G h o a
def jB(G:Gam)(h:aA)(o:AO)(a:List AV):Option (AV×aA):=match o with
 |.pre c o=>match wB c h a with
  |some (b,d)=>dN G b o d|none=>none
 |o=>dN G h o a
def iP(c:Option Nat)(d:Bool)(a b:List (Nat×AV)):Option (AV×aA)->R
 |none=>.bad|some (v,h)=>match c with
  |none=>.ok a b h|some t=>if d then .ok a (upd t v b) h else .ok ((t,v)::a) b h
def wM:AV:=.tup []
def jL(G:Gam)(h:aA)(o:AO)(a:List AV):Option AV:=if o.quiet then dH h o a else match o with
 |.call f=>match G f with
  |some (.pure F)=>match bU h a with
   |some b=>match F b with
    |some r=>if scalar r then some r else if dX a=[]then some r else none|none=>none
   |none=>none
  |_=>none
 |.bsl false c=>if dX a=[]then(match bU h a with
   |some b=>if dB c (b.map AV.cells)/\fW (b.map AV.cells)/\0<c/\b.length*c<=16777216 then some (.tsl (b.map AV.cells))else none|none=>none)else none|.slcf c g e i=>match a with
  |x::d=>(match pV g e i d with
   |some (l,r,m)=>FO c x l r m|none=>none)|[]=>none
 |_=>none
def AO.loud:AO->Bool
 |.call _|.bsl false _|.slcf _ _ _ _=>false|o=>!o.quiet
def AO.turns(o:AO):Bool:=match o with
 |.pre _ _=>false|o=>o.loud
def eH(G:Gam)(c:Bool)(i:MI)(e:Nat->Option AV)(h:aA):Option (AV×aA):=let go:Option (AV×aA):=match iU e i.args with
  |some a=>if c&&!i.o.loud then(jL G h i.o a).map fun v=>(v,h)else jB G h i.o a|none=>none
 match i.g with
 |none=>go|some (t,d)=>match e t with
  |some (.bool b)=>if b=d then go else some (wM,h)|some (.tup [])=>some (wM,h)|_=>none
def JF(G:Gam)(c:Bool)(i:MI):R->R
 |.bad=>.bad|.ok a b h=>iP i.dst i.kept a b (eH G c i (bV a b) h)
def run(G:Gam)(a:Bool):List MI->R->R
 |[],r=>r|i::b,r=>run G a b (JF G a i r)
def bJ(C:Cx)(l:Nat):Blk->Option Nat
 |.cellsT _ _=>C.bl l|.arrX _ _ _ a _ _=>match C.ar l a with
  |some (some r)=>some r.block|_=>none
 |.map _=>C.bl l|.iter _ _=>C.bl l|.lp _ _=>C.bl l|.mit _ _ _ _=>C.bl l|.dead=>none
structure Gv where
 fn:Nat->Option (List AV)tb:Nat->Option (List Value)
instance:CoeFun Gv (fun _=>Nat->Option (List AV)):=⟨Gv.fn⟩
def TbOK(c:Gv)(n:Nat)(w:World):Prop:=∀g a,c.tb g=some a->g<n/\∃T b,w.heap[g]?=some (.cells a.toArray T b)
theorem TbOK.mono{a:Gv}{n:Nat}{w d:World}(h:TbOK a n w)(j:∀k,k<n->k<w.heap.size->d.heap[k]?=w.heap[k]?):TbOK a n d:=fun g e i=>by
 obtain⟨b,T,f,c⟩:=h g e i;exact⟨b,T,f,(j g b (nE.1 c).1).trans c⟩
structure Base where
 n:Nat
 lo:Nat->Nat->Option Value
 gv:Gv
 rc:Nat->Option (Nat×Loop)cx:Cx
instance:Coe Base Nat:=⟨Base.n⟩
def Base.Up(B D:Base):Prop:=∃rc cx,D={B with rc:=rc,cx:=cx}/\(∀l x,B.rc l=some x->rc l=some x)/\B.cx.Le cx
theorem Base.Up.refl(B:Base):B.Up B:=⟨B.rc,B.cx,rfl,fun _ _ h=>h,.refl _⟩
theorem Base.Up.trans{B D E:Base}(h:B.Up D)(k:D.Up E):B.Up E:=by
 obtain⟨g,f,rfl,b,c⟩:=h;obtain⟨e,a,rfl,k1,k2⟩:=k;exact⟨e,a,rfl,fun l x d=>k1 l x (b l x d),c.trans k2⟩
def MX.code:MX->Option Code
 |.normal=>none|.exit id=>some (.exit id)|.ret=>some .ret
def yG(a:Bool)(x:MX):LoopState:=if a then .busy else if x.code.isNone then .ready else .done
def CH(tg:Option TypeId)(e:TypeId):Prop:=∀t,tg=some t->e=t
theorem ZJ(e:TypeId):CH none e:=fun t h=>by cases h
def tagArr(tg:Option TypeId)(e:TypeId)(a:List (List AV)):Prop:=CH tg e/\(tg≠none->a≠[])
theorem ZI(e:TypeId)(a:List (List AV)):tagArr none e a:=⟨ZJ e,fun h=>absurd rfl h⟩
theorem tagArr.len{tg:Option TypeId}{e:TypeId}{a b:List (List AV)}(h:tagArr tg e a)(c:a.length<=b.length):tagArr tg e b:=⟨h.1,fun d e=>h.2 d (vC (by subst e;simpa using c))⟩
def mitB(C:Cx)(m b:Option Nat):Prop:=match m with
 |none=>b=none|some k=>∃a,C.bl k=some a/\b=some a
theorem mitB.mono{C D:Cx}{m a:Option Nat}(h:mitB C m a)(e:C.Le D):mitB D m a:=by cases m with
 |none=>exact h|some k=>obtain⟨b,c,d⟩:=h;exact⟨b,e.bl _ _ c,d⟩
def Cx.at(C:Cx)(a:Bool):Cx:=if a then C else Cx.pure C.im
theorem Cx.Le.at{C D:Cx}(h:C.Le D)(a:Bool):(C.at a).Le (D.at a):=by
 cases a;·exact h.frozen
 ·exact h
theorem Cx.at_all(C:Cx)(a:Bool):(C.at a).Le C:=by
 cases a;·exact C.frozen_le
 ·exact .refl _
def BlkOK(B:Base)(C:Cx)(w:World)(l:Nat):Blk->Prop
 |.cellsT tg F=>∃b a e,C.bl l=some b/\B<=b/\w.heap[b]?=some (.cells a e (0,0))/\(∀o,C.im b o=none)/\RelL C F a.toList/\CH tg e|.arrX z tg E q c wr=>(C.ar l q=some none/\c=[])\/∃r a,C.ar l q=some (some r)/\B<=r.block/\c.length<=r.cap/\r.cap<=maxLen/\(∀D∈c,D.length=r.size)/\w.heap[r.block]?=some (.cells a r.elem r.fz)/\a.size=r.cap*r.size/\RelL (C.at z) c.flatten (a.toList.take (c.length*r.size))/\(∀u∈a.toList.take (c.length*r.size),u.oneCell'=true)/\(wr=true->∀o,C.im r.block o=none)/\(wr=false->∀j u,j<c.length*r.size->a[j]?=some u->C.im r.block j=some u)/\r.size=E/\tagArr tg r.elem c|.map g=>∃b d f,C.bl l=some b/\B<=b/\w.heap[b]?=some (.map d f)/\g.length=d.size/\(∀(i:Nat)k v m,g[i]?=some (k,v)->d[i]?=some m->Rel (Cx.pure C.im) k m.key/\Rel (Cx.pure C.im) v m.val)/\f=d.size/\∀(i:Nat)m,d[i]?=some m->m.born=i|.iter s A=>∃b,C.bl l=some b/\B<=b/\w.heap[b]?=some (.stringIter ⟨s.toArray⟩ A)|.lp t x=>∃b r,C.bl l=some b/\B<=b/\B.rc l=some (b,r)/\w.heap[b]?=some (.loop {r with state:=yG t x,pending:=x.code})|.mit m n seen y=>∃b p,C.bl l=some b/\B<=b/\w.heap[b]?=some (.mapIter p n seen.toArray y)/\mitB C m p|.dead=>True
structure Inv(B:Base)(C:Cx)(h:aA)(w:World):Prop where
 im:∀b o u,C.im b o=some u->w.cell? ⟨b,o,none⟩=some u
 one:∀b o u,C.im b o=some u->u.oneCell'=true
 ok:∀(l:Nat)blk,h[l]?=some blk->BlkOK B C w l blk
 inj:∀(l l':Nat)blk blk' b,h[l]?=some blk->h[l']?=some blk'->bJ C l blk=some b->bJ C l' blk'=some b->l=l'
 fr:∀l,h.length<=l->C.bl l=none/\∀v,C.ar l v=none
 fv:∀(l:Nat)ne tg sz ver rows wr,h[l]?=some (.arrX ne tg sz ver rows wr)->∀v,ver<v->C.ar l v=none
 hB:B<=w.heap.size
 low:∀b o u,b<B.n->C.im b o=some u->B.lo b o=some u
 gl:∀g r,B.gv g=some r->Rel (Cx.pure C.im) (.fptr r 0) (.pointer (some ⟨g,0,none⟩))tb:TbOK B.gv B.n w
 rcl:∀l x,B.rc l=some x->l<h.length
 cle:B.cx.Le C
theorem rR{w:World}{b o:Nat}{u:Value}(h:w.cell? ⟨b,o,none⟩=some u):b<w.heap.size:=World.block_lt_of_cell? w _ h
theorem gY{w:World}{b:Nat}{o:Obj}(h:w.heap[b]?=some o):b<w.heap.size:=(nE.1 h).1
theorem cell_of_heap{w:World}{b:Nat}{a:Array Value}{e:TypeId}{f:Nat×Nat}(h:w.heap[b]?=some (.cells a e f))(o:Nat):w.cell? ⟨b,o,none⟩=a[o]?:=by simp[World.cell?,h]
theorem Inv.grow{B:Base}{C:Cx}{h:aA}{w q:World}(a:Inv B C h w)(j:Below w.heap.size w q):Inv B C h q:=by
 have y:∀b o u,w.cell? ⟨b,o,none⟩=some u->q.cell? ⟨b,o,none⟩=some u:=fun b o u i=>(j.cell (p:=⟨b,o,none⟩) (rR i)).trans i;have g:∀b o,w.heap[b]?=some o->q.heap[b]?=some o:=fun b o i=>(j.block b (gY i)).trans i;refine⟨fun b o u x=>y b o u (a.im b o u x),a.one,fun l v x=>?_,a.inj,a.fr,a.fv,qL a.hB j.size,a.low,a.gl,a.tb.mono (fun k _ E=>j.block k E),a.rcl,a.cle⟩;have k:=a.ok l v x;cases v with
 |cellsT tg Q=>
  obtain⟨b,t,e,c,d,f,h4⟩:=k;exact⟨b,t,e,c,d,g _ _ f,h4⟩|arrX K tg N O M wr=>
  rcases k with k|⟨r,t,c,d,f,h4,h5,A,D⟩;·exact .inl k
  ·exact .inr ⟨r,t,c,d,f,h4,h5,g _ _ A,D⟩|map I=>
  obtain⟨b,G,z,c,d,f,h4⟩:=k;exact⟨b,G,z,c,d,g _ _ f,h4⟩|iter s L=>
  obtain⟨b,c,d,f⟩:=k;exact⟨b,c,d,g _ _ f⟩|lp H x=>
  obtain⟨b,r,c,d,f,h4⟩:=k;exact⟨b,r,c,d,f,g _ _ h4⟩|mit m n seen J=>
  obtain⟨b,F,c,d,f,h4⟩:=k;exact⟨b,F,c,d,g _ _ f,h4⟩|dead=>trivial
theorem JM{n:Nat}:∀(f:List (List AV)),(∀a∈f,a.length=n)->∀(i j:Nat)a c,f[i]?=some a->a[j]?=some c->f.flatten[i*n+j]?=some c
 |[],_,i,j,a,c,b,_=>by simp at b|r::k,e,0,j,a,c,b,d=>by
  simp at b;subst b;rw[oY,gC (by simpa using(aV.1 d).1)];simpa using d|r::k,e,i+1,j,a,c,b,d=>by
  have g:r.length=n:=e r (by simp);have m:=JM k (fun x l=>e x (by simp[l])) i j a c (by simpa using b) d;rw[oY,fT (by rw[g,gR];omega),g];rw[show(i+1)*n+j-n=i*n+j by rw[gR];omega];exact m
theorem mH{n:Nat}:∀(a:List (List AV)),(∀d∈a,d.length=n)->a.flatten.length=a.length*n
 |[],_=>by simp|r::e,b=>by rw[oY,bX,b r (by simp),mH e (fun x c=>b x (by simp[c])),hJ,gR];omega
theorem zC0{b:Nat}{a:List AV}{v:AV}(h:aE true b a=some v):a.length=b/\v=.agg a:=by
 simp only[aE,bD]at h;split at h;·injection h with h;exact⟨‹_›,h.symm⟩
 ·cases h
theorem zC1{b:Nat}{a:List AV}{v:AV}(h:aE false b a=some v):a=[v]:=by
 simp only[aE,dE,bY]at h;split at h;·cases h;rfl
 ·cases h
def mkC(b:Bool)(a:List Value):Value:=if b then .agg a.toArray else a.headD undef
theorem KJ{C:Cx}{a:Bool}{l:Nat}{b:List AV}{e:List Value}{v:AV}(g:aE a l b=some v)(d:RelL C b e):Rel C v (mkC a e):=by cases a with
 |true=>
  obtain⟨f,rfl⟩:=zC0 g;exact .agg b e.toArray (by simpa using d.1) (fun i c u j k=>d.2 i c u j (by simpa using k))|false=>
  have:=zC1 g;subst this;obtain⟨u,n,rfl,f,m⟩:=d.inv_cons;exact f
theorem uG{P:Program}{t:TypeId}{b:Bool}(h:(P.underlying t).map (fun|.struct _=>true|.array _ _=>true|_=>false)=some b)(w:World):(isAgg t).run P w=.ok b w:=by cases a:P.underlying t with
 |none=>simp[a]at h|some d=>cases d<;>simp[a]at h<;>subst h<;>simp[isAgg,run_underlying a]
def lS(P:Program)(t:TypeId):Option Bool:=(P.underlying t).map (fun|.struct _=>true|.array _ _=>true|_=>false)
def eI(P:Program)(t:TypeId):Option Nat:=(P.info? t).map (·.size)
theorem jR{P:Program}{t:TypeId}{n:Nat}(h:eI P t=some n)(w:World):(sizeOf t).run P w=.ok n w:=by
 unfold eI at h;cases a:P.info? t with
 |none=>simp[a]at h|some i=>simp[a]at h;subst h;simp[sizeOf,typeInfo,a]
theorem YI{P:Program}{t:TypeId}{c:Bool}{i:Nat}(k:lS P t=some c)(l:eI P t=some i)(a:Addr)(b:List Value)(d:if c then b.length=i else b.length=1)(w:World)(g:∀(j:Nat)u,b[j]?=some u->w.cell? (a.add j)=some u):(loadVar t a).run P w=.ok (mkC c b) w:=by
 have f:=uG k w;cases c with
 |true=>
  simp only[bD]at d;have:=run_loadCells_list (P:=P) w a b g;rw[d]at this;simp[loadVar,f,jR l,this,mkC]|false=>
  simp only[dE,bY]at d;match b,d with
  |[u],_=>
   have e:=g 0 u rfl;simp[Addr.add]at e;simp[loadVar,f,e,mkC]
theorem IT{C:Cx}{c:List AV}{d:List Value}(h:RelL C c d)(a b:Nat):RelL C (cut c a b) ((d.drop a).take b):=(h.drop a).take b
theorem KI{a:Bool}{c:Nat}{b:List AV}{v:AV}(h:aE a c b=some v):if a then b.length=c else b.length=1:=by cases a with
 |true=>simpa using(zC0 h).1|false=>have:=zC1 h;subst this;simp
theorem AQ{us:List Value}{off size j:Nat}{u:Value}(h:((us.drop off).take size)[j]?=some u):us[off+j]?=some u:=by
 rw[fZ]at h;split at h;·rwa[nW]at h
 ·cases h
theorem zL9{C:Cx}{b:List AV}{e:Nat->Value}(f:∀(j:Nat)c,b[j]?=some c->Rel C c (e j)):RelL C b ((List.range b.length).map e):=by
 refine⟨by simp,fun i c v d a=>?_⟩;rw[tN,List.getElem?_range (aV.1 d).1]at a;simp at a;subst a;exact f i c d
theorem zz2{P:Program}{B:Base}{C:Cx}{h:aA}{w:World}(I:Inv B C h w){t:TypeId}{N:Bool}{A:Nat}(H:lS P t=some N)(L:eI P t=some A){a v:AV}{x:Value}(s:Rel C a x)(d:aB A N h a=some v):∃u,Rel C v u/\∀g,Below w.heap.size w g->(Instr.loadAt t x).run P g=.ok u g:=by cases a with
  |ptr l e=>
    simp only[aB]at d;split at d
    ·rename_i vs M;cases s with|ptr _ _ b D=>
        obtain⟨b',O,a3,f,X,G,h4,h5,_⟩:=I.ok l _ M;rw[D]at f;cases f;have m:=IT h5 e A;refine⟨_,KJ d m,fun g y=>?_⟩;have k:=KI d;rw[m.1]at k;have:=YI H L ⟨b,e,none⟩ _ k g (fun j u q=>by
          rw[Addr.add_lit,cell_of_heap ((y.block b (gY G)).trans G)];simpa using AQ q);simpa[Instr.loadAt,Instr.sureAddr]using this
    ·cases d|fptr n e=>
    simp only[aB]at d;cases s with|fptr _ _ b o us E s=>
      have m:=IT ((zL9 s).mono C.frozen_le) e A;refine⟨_,KJ d m,fun g y=>?_⟩;have k:=KI d;rw[m.1]at k;have:=YI H L ⟨b,o+e,none⟩ _ k g (fun j u q=>by
        have F:=AQ q;have V:e+j<n.length:=by have:=(aV.1 F).1;simpa using this
        rw[tN,List.getElem?_range V]at F;simp at F;subst F;rw[Addr.add_lit];have T:=I.im _ _ _ (E (e+j) n[e+j] (by simp[V]));rw[Nat.add_assoc];exact(y.cell (p:=⟨b,o+(e+j),none⟩) (rR T)).trans T);simpa[Instr.loadAt,Instr.sureAddr]using this
  |eptr l b1 i e=>
    simp only[aB]at d;split at d
    · rename_i W tg sz b2 z wr M;split at d
      · rename_i hv;subst hv;split at d
        ·rename_i n K;cases s with|eptr _ _ _ _ r D=>
            have Z:=I.ok l _ M;rcases Z with⟨f,_⟩|⟨r',O,f,X,G,h4,h5,Q,h7,S,_⟩;·rw[D]at f;cases f
            · rw[D]at f;injection f with f;cases f;have U:i<z.length:=(aV.1 K).1;have a1:n.length=r.size:=h5 n (fB K);have Y:=mH z h5;have a2:RelL (C.at W) n ((O.toList.drop (i*r.size)).take r.size):=by
                refine⟨?_,fun j c u E hu=>?_⟩
                ·have:=S.1;simp[Y]at this⊢;have J:(i+1)*r.size<=z.length*r.size:=kQ _ U;rw[gR]at J;omega
                · have q:j<r.size:=by rw[<-a1];exact(aV.1 E).1
                  have J:(i+1)*r.size<=z.length*r.size:=kQ _ U;rw[gR]at J;refine S.2 (i*r.size+j) c u (JM z h5 i j n c K E) ?_;rw[fZ,if_pos (by omega)];exact AQ hu
              have m:=IT (a2.mono (C.at_all W)) e A;refine⟨_,KJ d m,fun g y=>?_⟩;have k:=KI d;rw[m.1]at k;have:=YI H L ⟨r.block,i*r.size+e,none⟩ _ k g (fun j u q=>by
                rw[Addr.add_lit,cell_of_heap ((y.block r.block (gY Q)).trans Q)];have:=AQ (AQ q);simpa[Nat.add_assoc]using this);simpa[Instr.loadAt,Instr.sureAddr]using this
        ·cases d
      ·cases d
    ·cases d|_=>simp[aB]at d
def KN:Value->Option AV
 |.bool b=>some (.bool b)|.int k n=>some (.int k n)|.string s=>some (.str s.data.toList)|.pointer none=>some .nilp|.slice none 0 0=>some .nils|.map none=>some .nilm|.nilFunc=>some .nilf|.nilIface=>some .nili|_=>none
def uD:List Value->Option (List AV)
 |[]=>some []|v::c=>match KN v,uD c with
  |some a,some b=>some (a::b)|_,_=>none
def ofValue:Value->Option AV
 |.agg a=>(uD a.toList).map .agg|v=>KN v
theorem zD7{C:Cx}{v:Value}{a:AV}(h:KN v=some a):Rel C a v:=by
 unfold KN at h;split at h<;>(first|cases h|skip)<;>constructor
theorem WP{C:Cx}:∀{c:List Value}{b:List AV},uD c=some b->RelL C b c
 |[],b,h=>by simp[uD]at h;subst h;exact .nil|v::c,b,h=>by
  simp only[uD]at h;split at h
  ·rename_i a f d e;cases h;exact .cons (zD7 d) (WP e)
  ·cases h
theorem zD8{C:Cx}{v:Value}{a:AV}(h:ofValue v=some a):Rel C a v:=by
 unfold ofValue at h;split at h
 ·rename_i d;cases b:uD d.toList with
  |none=>simp[b]at h|some e=>
   simp[b]at h;subst h;have:=WP (C:=C) b;exact .agg e d (by simpa using this.1) (fun i c u f g=>this.2 i c u f (by simpa using g))
 ·exact zD7 h
def kK(P:Program)(t:TypeId):Option (List AV):=((P.info? t).bind (·.zero)).bind fun z=>uD z.cells.toList
def CL(P:Program)(t:TypeId):Option AV:=((P.info? t).bind (·.zero)).bind ofValue
def qS(P:Program)(c:TypeId->Option (List EK)):List Field->Nat->Option (List EK)
 |[],_=>some []|f::d,b=>if f.name= "_"\/f.offset≠b then none else match c f.type with
  |some a=>if eI P f.type=some a.length then(qS P c d (b+a.length)).map (a++·)else none|none=>none
def iC(P:Program):Nat->TypeId->Option (List EK)
 |0,_=>none|d+1,t=>match P.underlying t with
  |some .bool=>some [.b]|some (.int _)=>some [.i]|some .string=>some [.s]|some (.struct a)=>if P.stoodInHeld t then none else qS P (iC P d) a.toList 0|_=>none
def tW(a:Gv):Operand->Option At
 |.tmp t=>some (.t t)|.const v=>(ofValue v).map .c|.global g=>(a g).map fun r=>.c (.fptr r 0)|.func f=>some (.c (.fn f []))
def IP(b:Gv):List Operand->Option (List At)
 |[]=>some []|x::d=>match tW b x,IP b d with
  |some a,some c=>some (a::c)|_,_=>none
def XO(P:Program)(t:TypeId):Option (Nat->Option (Nat×Nat)):=match P.underlying t with
 |some (.array _ e)=>(P.info? e).map fun a=>fun i=>some (i*a.size,a.size)|some (.struct b)=>(b.toList.mapM (fun f=>(P.info? f.type).map fun i=>(f.offset,i.size))).map fun c=>fun i=>c.toArray[i]?|_=>none
def placesOf(a:Nat->Option (Nat×Nat)):List (Nat×Operand)->Option (List (Nat×Nat))
 |[]=>some []|(i,_)::r=>match a i,placesOf a r with
  |some q,some b=>some (q::b)|_,_=>none
def iQ(P:Program):Op->Option (AO×List Operand)
 |.move x=>some (.mv,[x])|.assign x=>some (.mv,[x])|.pick c a b=>some (.pick,[c,a,b])|.binOp l t x y _=>match P.underlying t with
  |some .bool=>(match l with
   |.eql=>some (.eqB false,[x,y])|.neq=>some (.eqB true,[x,y])|_=>none)|some (.int _)=>some (.bin l,[x,y])|some .string=>some (.bin l,[x,y])|some (.struct _)=>if P.eqGuardType P.depth t=false then(match iC P 100 t with
   |some u=>if eI P t=some u.length then(match l with
    |.eql=>some (.eqA false u,[x,y])|.neq=>some (.eqA true u,[x,y])|_=>none)else none|none=>none)else none|_=>none
 |.unOp l _ x=>some (.un l,[x])|.convert s d x=>match P.underlying s,P.underlying d with
  |some (.int _),some (.int k)=>some (.conv k,[x])|some .string,some .string=>some (.strid,[x])|_,_=>none
 |.fieldAddr s x f=>match P.underlying s with
  |some (.struct r)=>(match r[f]? with
   |some j=>(match eI P j.type with
    |some n=>if n=0 then none else some (.fadr j.offset,[x])|none=>none)|none=>none)|_=>none
 |.field s x f=>match P.underlying s with
  |some (.struct r)=>(match r[f]? with
   |some j=>(match eI P j.type,lS P j.type with
    |some n,some a=>some (.fld j.offset n a,[x])|_,_=>none)|none=>none)|_=>none
 |.indexAddr t x i=>match P.underlying t with
  |some (.slice e)=>(match eI P e with
   |some n=>some (.iadr n,[x,i])|none=>none)|some (.array v e)=>(match eI P e with
   |some n=>some (.aadr v n,[x,i])|none=>none)|_=>none
 |.index t x i=>match P.underlying t with
  |some .string=>some (.istr,[x,i])|some (.array v e)=>(match eI P e,lS P e with
   |some n,some a=>some (.iarr v n a,[x,i])|_,_=>none)|_=>none
 |.load t a=>match eI P t,lS P t with
  |some n,some g=>some (.ld n g,[a])|_,_=>none
 |.extract x i=>some (.ext i,[x])|.lookup t m k A=>match P.underlying t with
  |some (.map G e)=>(match P.underlying G,CL P e with
   |some .string,some z=>some (.look .s A z,[m,k])|some (.int _),some z=>some (.look .i A z,[m,k])|some .bool,some z=>some (.look .b A z,[m,k])|_,_=>none)|_=>none
 |.makeFunc (.func f) E D=>if E.size=0 then some (.mkfn f,D.toList)else if D.size=0 then(match E.toList with
  |[x]=>some (.mkmth f,[x])|_=>none)else none|.makeInterface t x=>match P.underlying t with
  |some (.interface _)=>none|some _=>some (.mkif t,[x])|none=>none
 |.slice t x p o q=>match P.underlying t with
  |some .string=>some (.slc none p.isSome o.isSome q.isSome,x::(p.toList++o.toList++q.toList))|some (.slice e)=>(match eI P e with
   |some n=>some (.slc (some n) p.isSome o.isSome q.isSome,x::(p.toList++o.toList++q.toList))|none=>none)|_=>none
 |.call {callee:=.builtin .len,args,argTypes}=>match argTypes.toList,args.toList with
  |[t],[x]=>(match P.underlying t with
   |some .string=>some (.len 0,[x])|some (.slice _)=>some (.len 1,[x])|some (.map _ _)=>some (.len 2,[x])|_=>none)|_,_=>none
 |.call {callee:=.builtin .min,args,..}=>match args.toList with
  |[x,y]=>some (.min,[x,y])|_=>none
 |.call {callee:=.builtin .max,args,..}=>match args.toList with
  |[x,y]=>some (.max,[x,y])|_=>none
 |.build t F=>match kK P t,XO P t with
  |some z,some H=>(match placesOf H F.toList with
   |some I=>some (.bld z I,F.toList.map (·.2))|none=>none)|_,_=>none
 |.nilCheck x=>some (.nilck,[x])|_=>none
section
variable{P:Program}{B:Base}{C:Cx}{h:aA}{w:World}
theorem zM7(c:BinOp)(t:TypeId)(x y:Operand)(a b:Value)(d:a.oneCell'=true/\a≠.nilIface)(w:World):(eqGuard c t x y a b).run P w=.ok () w:=by cases c<;>cases a<;>simp_all[eqGuard,Value.oneCell']
theorem fM{s:List UInt8}{x:Value}(h:Rel C (.str s) x):x=.string ⟨s.toArray⟩:=by cases h;rfl
theorem fF{k:IntKind}{n:Int}{x:Value}(h:Rel C (.int k n) x):x=.int k n:=by cases h;rfl
theorem jJ{b:Bool}{x:Value}(h:Rel C (.bool b) x):x=.bool b:=by cases h;rfl
theorem tJ{b:List AV}{x:Value}(h:Rel C (.agg b) x):∃a:Array Value,x=.agg a/\RelL C b a.toList:=by cases h with|agg _ a e h=>exact⟨a,rfl,by simpa using e,fun i c u d f=>h i c u d (by simpa using f)⟩
theorem SH(s:List UInt8):(ByteArray.mk s.toArray).toList=s:=by simp
theorem yT7{c:BinOp}{k:IntKind}{a b:Int}{v:AV}(d:c≠.shl/\c≠.shr)(h:fS c k a b=some v)(t:TypeId):∃u,Rel C v u/\∀w,(binOp c t (.int k a) (.int k b)).run P w=.ok u w:=by cases c<;>simp only[fS]at h<;>(first|cases h|skip)<;>first
    |exact⟨_,.int _ _,fun w=>rfl⟩|(refine⟨_,.bool _,fun w=>?_⟩;simp[binOp,Op.intCmp];done)|(refine⟨_,.int _ _,fun w=>?_⟩;simp[binOp,Op.intArith,Op.intBits];done)
    | (split at h;·cases h
       ·cases h;refine⟨_,.int _ _,fun w=>?_⟩;simp[binOp,Op.intDiv, *])|(exact absurd rfl d.1)|(exact absurd rfl d.2)
theorem xr1{c:BinOp}{a b:List UInt8}{v:AV}(h:dV c a b=some v)(t:TypeId):∃u,Rel C v u/\∀w,(binOp c t (.string ⟨a.toArray⟩) (.string ⟨b.toArray⟩)).run P w=.ok u w:=by
  have f:∀x y:ByteArray,(BinOp.add=.add):=fun _ _=>rfl;cases c<;>simp only[dV]at h<;>(first|cases h|skip);case add=>
    split at h
    · rename_i d;cases h;refine⟨_,.str _,fun w=>?_⟩;have e:¬(9223372036854775807:Int)<((a.length:Int)+(b.length:Int)):=by unfold dP at d;omega
      simp[binOp,Op.stringOp,ByteArray.size,IntKind.max,IntKind.signed,IntKind.bits,e];exact ByteArray.ext (by simp)
    ·cases h
  all_goals
    refine⟨_,.bool _,fun w=>?_⟩;simp[binOp,Op.stringOp]
theorem yi6{c:BinOp}{a b v:AV}{x y:Value}(j:Rel C a x)(l:Rel C b y)(h:aW c a b=some v)(t:TypeId)(f g:Operand):∃u,Rel C v u/\∀w,(do eqGuard c t f g x y;binOp c t x y:Sem Value).run P w=.ok u w:=by
  have fin:∀(i:x.oneCell'=true/\x≠.nilIface),(∃u,Rel C v u/\∀w,(binOp c t x y).run P w=.ok u w)->∃u,Rel C v u/\∀w,(do eqGuard c t f g x y;binOp c t x y:Sem Value).run P w=.ok u w:=by
    rintro i⟨u,o,p⟩;exact⟨u,o,fun w=>by simp[zM7 c t f g x y i w,p w]⟩
  unfold aW at h;split at h
  · rename_i k m s n;have:=fF j;subst this;have:=fF l;subst this;refine fin ⟨rfl,by simp⟩ ?_;split at h
    · rename_i d;split at h;·cases h
      ·rename_i q;cases h;refine⟨_,.int _ _,fun w=>?_⟩;rcases d with rfl|rfl<;>simp[binOp,Op.shift,q]
    · rename_i d;split at h
      ·rename_i r;subst r;exact yT7 ⟨fun e=>d (.inl e),fun e=>d (.inr e)⟩ h t
      ·cases h
  ·rename_i m n;have:=fM j;subst this;have:=fM l;subst this;exact fin ⟨rfl,by simp⟩ (xr1 h t)
  ·cases h
theorem zq3:∀(e l:List EK)(f g i j:List AV)(b:Bool),f.length=e.length->g.length=e.length->gX (e++l) (f++i) (g++j)=some b->∃m,gX e f g=some m/\(m=false->b=false)/\(m=true->gX l i j=some b)
  |[],l,[],[],i,j,b,_,_,h=>⟨true,rfl,by simp,fun _=>h⟩|[],_,_::_,_,_,_,_,c,_,_=>by simp at c|[],_,_,_::_,_,_,_,_,c,_=>by simp at c|_::_,_,[],_,_,_,_,c,_,_=>by simp at c|_::_,_,_,[],_,_,_,_,c,_=>by simp at c|k::e,l,a::f,p::g,i,j,b,c,r,h=>by
    have o:=zq3 e l f g i j b (by simpa using c) (by simpa using r);simp only[tL]at h;cases k<;>cases a<;>cases p<;>simp only[gX]at h⊢<;>(first|cases h|skip);case i.int.int k n s t=>
      split at h
      · rename_i q;simp only[if_pos q];split at h;·rename_i d;simp only[if_pos d];exact o h
        ·rename_i d;simp only[if_neg d];cases h;exact⟨false,rfl,fun _=>rfl,by simp⟩
      ·cases h
    all_goals
      split at h;·rename_i d;simp only[if_pos d];exact o h
      ·rename_i d;simp only[if_neg d];cases h;exact⟨false,rfl,fun _=>rfl,by simp⟩
theorem UN{k:EK}{a c:AV}{b:Bool}(h:gX [k] [a] [c]=some b):(∃q m n,k=.i/\a=.int q m/\c=.int q n/\b=(m==n))\/(∃m n,k=.s/\a=.str m/\c=.str n/\b=(m==n))\/(∃m n,k=.b/\a=.bool m/\c=.bool n/\b=(m==n)):=by
 cases k<;>cases a<;>cases c<;>simp only[gX]at h<;>(first|cases h|skip);case i.int.int k n e f=>
  split at h
  ·rename_i d;subst d;refine .inl ⟨_,_,_,rfl,rfl,rfl,?_⟩;split at h<;>injection h with h<;>subst h<;>simp[*]
  ·cases h
 case s.str.str x y=>
  refine .inr (.inl ⟨_,_,rfl,rfl,rfl,?_⟩);split at h<;>injection h with h<;>subst h<;>simp[*]
 case b.bool.bool x y=>
  refine .inr (.inr ⟨_,_,rfl,rfl,rfl,?_⟩);split at h<;>injection h with h<;>subst h<;>simp[*]
theorem PO(c:Array Value)(a b:Nat):(c.extract a b).toList=(c.toList.drop a).take (b-a):=by simp[List.take_drop]
def EqAt(P:Program)(C:Cx)(d:Nat):Prop:=∀(t:TypeId)(e:List EK)(f:Nat)(j l:Array Value)(g i:List AV)(b:Bool),iC P d t=some e->eI P t=some e.length->RelL C g ((j.toList.drop f).take e.length)->RelL C i ((l.toList.drop f).take e.length)->g.length=e.length->i.length=e.length->gX e g i=some b->∀k w,(do let a<-part t j f;let c<-part t l f;Op.equalIn (k+d) t a c:Sem Bool).run P w=.ok b w
def zX8(P:Program)(C:Cx)(d:Nat):Prop:=∀(g:List Field)(f:Nat)(a:List EK)(i j:Array Value)(c e:List AV)(b:Bool),qS P (iC P d) g f=some a->RelL C c ((i.toList.drop f).take a.length)->RelL C e ((j.toList.drop f).take a.length)->c.length=a.length->e.length=a.length->gX a c e=some b->∀k w,(Op.eqFields (k+d) i j g).run P w=.ok b w
theorem zQ5(l:List Value)(a m n:Nat):((l.drop a).take (m+n)).take m=(l.drop a).take m:=by rw[AF];congr 1;omega
theorem zp1(l:List Value)(a m n:Nat):((l.drop a).take (m+n)).drop m=(l.drop (a+m)).take n:=by rw[List.drop_take,DP];congr 1;omega
theorem zq5{d:Nat}(h:EqAt P C d):zX8 P C d:=by
  intro t;induction t with
  |nil=>
    intro g H r s j l b e p q n o m k w;simp[qS]at e;subst e;simp at n o;subst n o;simp[gX]at m;subst m;simp[Op.eqFields]|cons f t G=>
    intro g H r s j l b e p q n o m k w;simp only[qS]at e;split at e;·cases e
    · rename_i u;simp only[not_or,Decidable.not_not]at u;split at e
      · rename_i k1 D;split at e
        ·rename_i F;cases v:qS P (iC P d) t (g+k1.length)with
          |none=>simp[v]at e|some k2=>
            simp[v]at e;subst e;have I:j=j.take k1.length++j.drop k1.length:=(oZ _ _).symm;have J:l=l.take k1.length++l.drop k1.length:=(oZ _ _).symm;rw[I,J]at m;simp only[bX]at n o p q;obtain⟨x,y,z,A⟩:=zq3 k1 k2 _ _ _ _ b (by simp;omega) (by simp;omega) m;have i:=h f.type k1 g r s (j.take k1.length) (l.take k1.length) x D F (by rw[<-zQ5 _ g k1.length k2.length];exact p.take _) (by rw[<-zQ5 _ g k1.length k2.length];exact q.take _) (by simp;omega) (by simp;omega) y k w;have E:=u.2;simp only[Sem.run_bind]at i;simp only[Op.eqFields,ne_eq,u.1,not_false_eq_true,bD,E,Sem.run_bind];generalize(part f.type r g).run P w=K at i⊢;cases K with
            |halt _ _=>simp[Result.andThen]at i|ok a M=>
              simp only[Result.andThen_ok]at i⊢;generalize(part f.type s g).run P M=L at i⊢;cases L with
              |halt _ _=>simp[Result.andThen]at i|ok c N=>
                simp only[Result.andThen_ok]at i⊢;rw[i];cases x with
                |false=>simp[z rfl]|true=>
                  simp only[Result.andThen_ok,nG,dE,bY];exact G (g+k1.length) k2 r s _ _ b v (by rw[<-zp1 _ g k1.length k2.length];exact p.drop _) (by rw[<-zp1 _ g k1.length k2.length];exact q.drop _) (by simp;omega) (by simp;omega) (A rfl) k w
        ·cases e
      ·cases e
theorem zq2:∀d,EqAt P C d
  |0=>fun t o j s u v A b h=>by simp[iC]at h|d+1=>by
    intro t o j s u v A b h Q g i D E G k w;have z:∀(J:o.length=1)(r:lS P t=some false)(H:∀(a c:AV)(x y:Value),Rel C a x->Rel C c y->gX o [a] [c]=some b->(Op.equalIn (k+d+1) t x y).run P w=.ok b w),(do let a<-part t s j;let c<-part t u j;Op.equalIn (k+(d+1)) t a c:Sem Bool).run P w=.ok b w:=by
      intro J r H;rw[J]at D E g i;match v,A,D,E with
      |[a],[c],_,_=>
        obtain⟨x,W,L,U,_⟩:=g.inv_cons;obtain⟨y,X,M,V,_⟩:=i.inv_cons;have N:s[j]?=some x:=by have:=congrArg (fun l:List Value=>l[0]?) L;simpa[fZ,nW]using this
        have O:u[j]?=some y:=by have:=congrArg (fun l:List Value=>l[0]?) M;simpa[fZ,nW]using this
        simp[part,uG r,N,O];exact H a c x y U V G
    simp only[iC]at h;cases f:P.underlying t with
    |none=>simp[f]at h|some K=>
      cases K<;>simp only[f]at h<;>(first|cases h|skip);case some.bool.refl=>
        refine z rfl (by simp[lS,f]) fun a c x y g i p=>?_;rcases UN p with⟨q,m,n,e,_⟩|⟨m,n,e,_⟩|⟨m,n,_,rfl,rfl,rfl⟩;·cases e
        ·cases e
        ·rw[jJ g,jJ i,run_equalIn_bool' w (k+d) t _ _ f]
      case some.int.refl q=>
        refine z rfl (by simp[lS,f]) fun a c x y g i p=>?_;rcases UN p with⟨q,m,n,_,rfl,rfl,rfl⟩|⟨m,n,e,_⟩|⟨m,n,e,_⟩;·rw[fF g,fF i,run_equalIn_int w (k+d) t _ _ _ _ f]
        ·cases e
        ·cases e
      case some.string.refl=>
        refine z rfl (by simp[lS,f]) fun a c x y g i p=>?_;rcases UN p with⟨q,m,n,e,_⟩|⟨m,n,_,rfl,rfl,rfl⟩|⟨m,n,e,_⟩;·cases e
        ·rw[fM g,fM i,run_equalIn_string w (k+d) t _ _ f,SH,SH]
        ·cases e
      case some.struct F=>
        split at h;·cases h
        · rename_i S;have r:lS P t=some true:=by simp[lS,f]
          have I:P.fieldsOf t=F:=by simp[Program.fieldsOf,f]
          have T:P.underlying t=some (.struct (P.fieldsOf t)):=by rw[I];exact f
          have:=run_equalIn_struct (P:=P) w (k+d) t (s.extract j (j+o.length)) (u.extract j (j+o.length)) T (by simpa using S);rw[I]at this;simp only[part,Sem.run_bind,uG r,Result.andThen_ok,bD,jR Q,Sem.run_pure];rw[show k+(d+1)=k+d+1 by omega,this];refine zq5 (zq2 d) F.toList 0 o _ _ v A b h ?_ ?_ D E G k w
          ·rw[PO,vB,AF];rw[IA,Nat.min_self];exact g
          ·rw[PO,vB,AF];rw[IA,Nat.min_self];exact i
end
end Go.Proofs.YtdebajodkallbaaGreatDoor
