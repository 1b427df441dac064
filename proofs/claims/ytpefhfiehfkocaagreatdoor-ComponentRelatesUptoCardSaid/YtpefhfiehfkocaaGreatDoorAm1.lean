/- Abstract values,and how they stand to the model's values: for whatever program. The small language that a function's code is compiled to,and what it does to abstract values: plain functions of Lean. -/
import Derived.WalkKit
import Derived.Deep.Quiet
import Derived.Laws.StructEq
import Derived.Laws.Tables
import Derived.Laws.Slices
namespace Go.Proofs.YtpefhfiehfkocaaGreatDoor
open Go.RowKit
inductive AV where
  | bool (b:Bool)
  | int (k:IntKind) (n:Int)
  | str (s:List UInt8)
  | agg (cs:List AV)
  | tup (vs:List AV)
  | sl (rows:List (List AV))
  | tsl (rows:List (List AV))
  | nils
  | own (l ver n:Nat)
  | win (l ver lo n:Nat)
  | ptr (l off:Nat)
  | fptr (row:List AV) (off:Nat)
  | eptr (l ver i off:Nat)
  | gptr (g off:Nat)
  | nilp
  | map (l:Nat)
  | nilm
  | fn (f:FuncId) (caps:List AV)
  | mth (f:FuncId) (v:AV)
  | nilf
  | iface (t:TypeId) (v:AV)
  | nili
  | yld (l:Nat)
  | junk
  deriving Inhabited
structure RowAt where
  block:Nat
  cap:Nat
  size:Nat
  elem:TypeId
  cv:Bool
def RowAt.fz(r:RowAt):Nat×Nat:=if r.cv then (r.cap*r.size,r.cap*r.size+1)else (0,0)
structure Cx where
  im:Nat→Nat→Option Value
  bl:Nat→Option Nat
  ar:Nat→Nat→Option (Option RowAt)
def Cx.pure(im:Nat→Nat→Option Value):Cx:=⟨im,fun _=>none,fun _ _=>none⟩
structure Cx.Le (C D:Cx):Prop where
  im:∀ b o v,C.im b o=some v→D.im b o=some v
  bl:∀ l b,C.bl l=some b→D.bl l=some b
  ar:∀ l k r,C.ar l k=some r→D.ar l k=some r
theorem Cx.Le.refl(C:Cx):C.Le C:=⟨fun _ _ _ h=>h,fun _ _ h=>h,fun _ _ _ h=>h⟩
theorem Cx.Le.trans{C D E:Cx}(h:C.Le D)(k:D.Le E):C.Le E:=
  ⟨fun b o v x=>k.im b o v (h.im b o v x),fun l b x=>k.bl l b (h.bl l b x),fun l v r x=>k.ar l v r (h.ar l v r x)⟩
def Cx.frozen(C:Cx):Cx:=Cx.pure C.im
theorem Cx.Le.frozen{C D:Cx}(h:C.Le D):C.frozen.Le D.frozen:=⟨h.im,(fun _ _ x=>by cases x),(fun _ _ _ x=>by cases x)⟩
theorem Cx.frozen_le(C:Cx):C.frozen.Le C:=⟨fun _ _ _ h=>h,(fun _ _ x=>by cases x),(fun _ _ _ x=>by cases x)⟩
inductive Rel:Cx→AV→Value→Prop
  | bool {C} (b:Bool):Rel C (.bool b) (.bool b)
  | int {C} (k:IntKind) (n:Int):Rel C (.int k n) (.int k n)
  | str {C} (s:List UInt8):Rel C (.str s) (.string ⟨s.toArray⟩)
  | agg {C} (cs:List AV) (vs:Array Value) (hl:cs.length=vs.size) (h:∀ (i:Nat) c v,cs[i]?=some c→vs[i]?=some v→Rel C c v):Rel C (.agg cs) (.agg vs)
  | tup {C} (cs:List AV) (vs:Array Value) (hl:cs.length=vs.size) (h:∀ (i:Nat) c v,cs[i]?=some c→vs[i]?=some v→Rel C c v):Rel C (.tup cs) (.tuple vs)
  | slnil {C}:Rel C (.sl []) (.slice none 0 0)
  | slz {C} (a:Addr) (cap:Nat):Rel C (.sl []) (.slice (some a) 0 cap)
  | sl {C:Cx} (rows:List (List AV)) (b o cap size:Nat) (us:Nat→Nat→Value) (hcap:rows.length≤cap)
      (hsz:∀ (i:Nat) row,rows[i]?=some row→row.length=size)
      (hc:∀ (i:Nat) row (j:Nat) c,rows[i]?=some row→row[j]?=some c→C.im b (o+i*size+j)=some (us i j))
      (hr:∀ (i:Nat) row (j:Nat) c,rows[i]?=some row→row[j]?=some c→Rel (Cx.pure C.im) c (us i j)):Rel C (.sl rows) (.slice (some ⟨b,o,none⟩) rows.length cap)
  | tsl {C:Cx} (rows:List (List AV)) (b o size:Nat) (us:Nat→Nat→Value)
      (hsz:∀ (i:Nat) row,rows[i]?=some row→row.length=size)
      (hc:∀ (i:Nat) row (j:Nat) c,rows[i]?=some row→row[j]?=some c→C.im b (o+i*size+j)=some (us i j))
      (hr:∀ (i:Nat) row (j:Nat) c,rows[i]?=some row→row[j]?=some c→Rel (Cx.pure C.im) c (us i j)):Rel C (.tsl rows) (.slice (some ⟨b,o,none⟩) rows.length rows.length)
  | tslnil {C}:Rel C (.tsl []) (.slice none 0 0)
  | tslz {C} (a:Addr):Rel C (.tsl []) (.slice (some a) 0 0)
  | nils {C}:Rel C .nils (.slice none 0 0)
  | ownnil {C:Cx} (l ver:Nat) (h:C.ar l ver=some none):Rel C (.own l ver 0) (.slice none 0 0)
  | own {C:Cx} (l ver n:Nat) (r:RowAt) (h:C.ar l ver=some (some r)) (hn:n≤r.cap):Rel C (.own l ver n) (.slice (some ⟨r.block,0,none⟩) n r.cap)
  | win {C:Cx} (l ver lo n:Nat) (r:RowAt) (h:C.ar l ver=some (some r)) (hn:lo+n≤r.cap):Rel C (.win l ver lo n) (.slice (some ⟨r.block,lo*r.size,none⟩) n (r.cap-lo))
  | ptr {C:Cx} (l off b:Nat) (h:C.bl l=some b):Rel C (.ptr l off) (.pointer (some ⟨b,off,none⟩))
  | fptr {C:Cx} (row:List AV) (off b o:Nat) (us:Nat→Value) (hc:∀ (j:Nat) c,row[j]?=some c→C.im b (o+j)=some (us j))
      (hr:∀ (j:Nat) c,row[j]?=some c→Rel (Cx.pure C.im) c (us j)):Rel C (.fptr row off) (.pointer (some ⟨b,o+off,none⟩))
  | eptr {C:Cx} (l ver i off:Nat) (r:RowAt) (h:C.ar l ver=some (some r)):Rel C (.eptr l ver i off) (.pointer (some ⟨r.block,i*r.size+off,none⟩))
  | gptr {C} (g off:Nat):Rel C (.gptr g off) (.pointer (some ⟨g,off,none⟩))
  | nilp {C}:Rel C .nilp (.pointer none)
  | map {C:Cx} (l b:Nat) (h:C.bl l=some b):Rel C (.map l) (.map (some b))
  | nilm {C}:Rel C .nilm (.map none)
  | fn {C} (f:FuncId) (caps:List AV) (vs:Array Value) (hl:caps.length=vs.size) (h:∀ (i:Nat) c v,caps[i]?=some c→vs[i]?=some v→Rel C c v):Rel C (.fn f caps) (.func (.func f) #[] vs)
  | mth {C} (f:FuncId) (a:AV) (v:Value) (h:Rel C a v):Rel C (.mth f a) (.func (.func f) #[v] #[])
  | nilf {C}:Rel C .nilf .nilFunc
  | iface {C} (t:TypeId) (a:AV) (v:Value) (h:Rel C a v):Rel C (.iface t a) (.iface t v)
  | nili {C}:Rel C .nili .nilIface
  | yld {C:Cx} (l b:Nat) (h:C.bl l=some b):Rel C (.yld l) (.func (.yield b) #[] #[])
  | junk {C} (v:Value):Rel C .junk v
theorem Rel.mono{C D:Cx}{a:AV}{v:Value}(h:Rel C a v)(hl:C.Le D):Rel D a v:=by
  induction h generalizing D with
  | bool b=>exact .bool b
  | int k n=>exact .int k n
  | str s=>exact .str s
  | agg cs vs hs _ ih=>exact .agg cs vs hs fun i c v hc hv=>ih i c v hc hv hl
  | tup cs vs hs _ ih=>exact .tup cs vs hs fun i c v hc hv=>ih i c v hc hv hl
  | slnil=>exact .slnil
  | slz a cap=>exact .slz a cap
  | sl rows b o cap size us hcap hsz hc _ ih=>
    exact .sl rows b o cap size us hcap hsz (fun i row j c h1 h2=>hl.im _ _ _ (hc i row j c h1 h2)) (fun i row j c h1 h2=>ih i row j c h1 h2 ⟨hl.im,(fun _ _ x=>by cases x),(fun _ _ _ x=>by cases x)⟩)
  | tsl rows b o size us hsz hc _ ih=>
    exact .tsl rows b o size us hsz (fun i row j c h1 h2=>hl.im _ _ _ (hc i row j c h1 h2)) (fun i row j c h1 h2=>ih i row j c h1 h2 ⟨hl.im,(fun _ _ x=>by cases x),(fun _ _ _ x=>by cases x)⟩)
  | tslnil=>exact .tslnil
  | tslz a=>exact .tslz a
  | nils=>exact .nils
  | ownnil l ver h=>exact .ownnil l ver (hl.ar _ _ _ h)
  | own l ver n r h hn=>exact .own l ver n r (hl.ar _ _ _ h) hn
  | win l ver lo n r h hn=>exact .win l ver lo n r (hl.ar _ _ _ h) hn
  | ptr l off b h=>exact .ptr l off b (hl.bl _ _ h)
  | fptr row off b o us hc _ ih=>
    exact .fptr row off b o us (fun j c h1=>hl.im _ _ _ (hc j c h1)) (fun j c h1=>ih j c h1 ⟨hl.im,(fun _ _ x=>by cases x),(fun _ _ _ x=>by cases x)⟩)
  | eptr l ver i off r h=>exact .eptr l ver i off r (hl.ar _ _ _ h)
  | gptr g off=>exact .gptr g off
  | nilp=>exact .nilp
  | map l b h=>exact .map l b (hl.bl _ _ h)
  | nilm=>exact .nilm
  | fn f caps vs hs _ ih=>exact .fn f caps vs hs fun i c v hc hv=>ih i c v hc hv hl
  | mth f a v _ ih=>exact .mth f a v (ih hl)
  | nilf=>exact .nilf
  | iface t a v _ ih=>exact .iface t a v (ih hl)
  | nili=>exact .nili
  | yld l b h=>exact .yld l b (hl.bl _ _ h)
  | junk v=>exact .junk v
def RelL(C:Cx)(cs:List AV)(vs:List Value):Prop:=cs.length=vs.length∧∀ (i:Nat) c v,cs[i]?=some c→vs[i]?=some v→Rel C c v
theorem RelL.mono{C D:Cx}{cs:List AV}{vs:List Value}(h:RelL C cs vs)(hl:C.Le D):RelL D cs vs:=⟨h.1,fun i c v hc hv=>(h.2 i c v hc hv).mono hl⟩
theorem RelL.nil{C:Cx}:RelL C [] []:=⟨rfl,fun i c v hc=>by simp at hc⟩
theorem RelL.cons{C:Cx}{a:AV}{v:Value}{cs:List AV}{vs:List Value}(h:Rel C a v)(k:RelL C cs vs):RelL C (a::cs) (v::vs):=by
  refine ⟨by simp [k.1],fun i c u hc hu=>?_⟩
  cases i with
  | zero=>simp at hc hu; subst hc hu; exact h
  | succ i=>simp at hc hu; exact k.2 i c u hc hu
theorem RelL.inv_cons{C:Cx}{a:AV}{cs:List AV}{vs:List Value}(h:RelL C (a::cs) vs):∃ v us,vs=v::us∧Rel C a v∧RelL C cs us:=by
  cases vs with
  | nil=>simp [RelL]at h
  | cons v us=>
    refine ⟨v,us,rfl,h.2 0 a v rfl rfl,?_,fun i c u hc hu=>h.2 (i+1) c u (by simpa using hc) (by simpa using hu)⟩
    have:=h.1; simp at this; exact this
theorem RelL.inv_nil{C:Cx}{vs:List Value}(h:RelL C [] vs):vs=[]:=by
  cases vs with
  | nil=>rfl
  | cons v us=>simp [RelL]at h
theorem RelL.append{C:Cx}{cs ds:List AV}{vs us:List Value}(h:RelL C cs vs)(k:RelL C ds us):RelL C (cs++ds) (vs++us):=by
  refine ⟨by simp [h.1,k.1],fun i c u hc hu=>?_⟩
  by_cases hi:i<cs.length
  · rw [List.getElem?_append_left hi]at hc
    rw [List.getElem?_append_left (by rw [← h.1]; exact hi)]at hu;exact h.2 i c u hc hu
  · rw [List.getElem?_append_right (by omega)]at hc
    rw [List.getElem?_append_right (by rw [← h.1]; omega),← h.1]at hu;exact k.2 _ c u hc hu
theorem RelL.take{C:Cx}{cs:List AV}{vs:List Value}(h:RelL C cs vs)(n:Nat):RelL C (cs.take n) (vs.take n):=by
  refine ⟨by simp [h.1],fun i c u hc hu=>?_⟩
  rw [List.getElem?_take]at hc hu;split at hc
  · rename_i hi; rw [if_pos hi]at hu; exact h.2 i c u hc hu
  · cases hc
theorem RelL.drop{C:Cx}{cs:List AV}{vs:List Value}(h:RelL C cs vs)(n:Nat):RelL C (cs.drop n) (vs.drop n):=by
  refine ⟨by simp [h.1],fun i c u hc hu=>?_⟩
  rw [List.getElem?_drop]at hc hu;exact h.2 _ c u hc hu
theorem RelL.get{C:Cx}{cs:List AV}{vs:List Value}(h:RelL C cs vs){i:Nat}{c:AV}(hc:cs[i]?=some c):∃ v,vs[i]?=some v∧Rel C c v:=by
  have hi:i<vs.length:=by rw [← h.1]; exact (List.getElem?_eq_some_iff.1 hc).1
  exact ⟨vs[i],by simp [hi],h.2 i c _ hc (by simp [hi])⟩
theorem RelL.set{C:Cx}{cs:List AV}{vs:List Value}(h:RelL C cs vs)(i:Nat){a:AV}{v:Value}(k:Rel C a v):RelL C (cs.set i a) (vs.set i v):=by
  refine ⟨by simp [h.1],fun j c u hc hu=>?_⟩
  rw [List.getElem?_set]at hc hu;have:=h.1;by_cases e:i=j
  · subst e
    simp only [if_true]at hc hu;by_cases hi:i<cs.length
    · rw [if_pos hi]at hc; rw [if_pos (by omega)]at hu
      injection hc with hc; injection hu with hu; subst hc hu; exact k
    · rw [if_neg hi]at hc; cases hc
  · rw [if_neg e]at hc hu; exact h.2 j c u hc hu
def AV.cells:AV→List AV
  | .agg cs=>cs
  | .junk=>[]
  | v=>[v]
theorem cells_rel{C:Cx}{a:AV}{v:Value}(h:Rel C a v)(hne:a.cells≠[]):RelL C a.cells v.cells.toList:=by
  have h0:=h;cases h with
  | agg cs vs hl h=>exact ⟨by show cs.length=vs.toList.length; simpa using hl,fun i c u hc hu=>h i c u hc (by simpa [Value.cells] using hu)⟩
  | junk v=>exact absurd rfl hne
  | _=>exact .cons h0 .nil
end Go.Proofs.YtpefhfiehfkocaaGreatDoor
namespace Go.Proofs.YtpefhfiehfkocaaGreatDoor
inductive MX where
  | normal
  | exit (id:Nat)
  | ret
  deriving Inhabited
inductive Blk where
  | cellsT (tg:Option TypeId) (vs:List AV)
  | arrX (ne:Bool) (tg:Option TypeId) (size ver:Nat) (rows:List (List AV)) (wr:Bool)
  | map (es:List (AV×AV))
  | iter (s:List UInt8) (pos:Nat)
  | lp (busy:Bool) (x:MX)
  | mit (m:Option Nat) (n:Nat) (seen:List Nat) (last:Nat)
  | dead
  deriving Inhabited
@[match_pattern] abbrev Blk.arrT(tg:Option TypeId)(size ver:Nat)(rows:List (List AV))(wr:Bool):Blk:=.arrX false tg size ver rows wr
@[match_pattern] abbrev Blk.cells(vs:List AV):Blk:=.cellsT none vs
@[match_pattern] abbrev Blk.arr(size ver:Nat)(rows:List (List AV))(wr:Bool):Blk:=.arrT none size ver rows wr
abbrev Heap:=List Blk
inductive EK where
  | b | i | s
  deriving Inhabited
inductive PK where
  | settle
  | nest
  | spare (m:Nat)
  | slot (p:Nat)
  | frzv
  deriving Inhabited
inductive AO where
  | bot
  | mv
  | pick
  | strid
  | bin (op:BinOp)
  | eqA (neg:Bool) (ks:List EK)
  | eqB (neg:Bool)
  | un (op:UnOp)
  | conv (k:IntKind)
  | fadr (off:Nat)
  | fld (off size:Nat) (agg:Bool)
  | iadr (size:Nat)
  | aadr (len size:Nat)
  | istr
  | iarr (len size:Nat) (agg:Bool)
  | ld (size:Nat) (agg:Bool)
  | len (k:Nat)
  | ext (i:Nat)
  | look (kind:EK) (ok:Bool) (zero:AV)
  | mkfn (f:FuncId)
  | mkmth (f:FuncId)
  | mkif (t:TypeId)
  | slc (size:Option Nat) (lo hi mx:Bool)
  | bld (zero:List AV) (parts:List (Nat×Nat))
  | min
  | max
  | nilck
  | alloc (zero:List AV)
  | box
  | st (size:Nat)
  | newnil (size:Nat)
  | mkmap
  | mapup (kind:EK)
  | mksl (zero:List AV) (bytes:Nat)
  | bsl (own:Bool) (size:Nat)
  | app (str:Bool) (size bytes:Nat)
  | rng
  | nxt
  | rngm
  | ent
  | lookA (ks:List EK) (ok:Bool) (zero:AV)
  | mapupA (ks:List EK)
  | ment (kind:EK) (zero:AV)
  | estore
  | call (f:FuncId)
  | callv
  | b2s
  | s2b
  | cpy (str:Bool) (size:Nat)
  | isnil (neg:Bool)
  | isnili (neg:Bool)
  | isnilp (neg:Bool)
  | usd
  | ustr (e:TypeId)
  | allocB (t e:TypeId)
  | boxB (t e:TypeId)
  | appT (str:Bool) (size bytes:Nat) (e:TypeId)
  | slcf (size:Nat) (lo hi mx:Bool)
  | callg (f:FuncId)
  | bslK (own:Bool) (size:Nat)
  | pre (ks:List PK) (o:AO)
  deriving Inhabited
inductive At where
  | t (n:Nat)
  | c (v:AV)
  deriving Inhabited
structure MI where
  g:Option (Nat×Bool)
  dst:Option Nat
  kept:Bool
  o:AO
  args:List At
  deriving Inhabited
inductive R where
  | ok (env fr:List (Nat×AV)) (h:Heap)
  | bad
  deriving Inhabited
def lkp(t:Nat):List (Nat×AV)→Option AV
  | []=>none
  | (k,v)::r=>if t=k then some v else lkp t r
def upd(t:Nat)(v:AV):List (Nat×AV)→List (Nat×AV)
  | []=>[]
  | (k,x)::r=>if t=k then (k,v)::r else (k,x)::upd t v r
def getT(env fr:List (Nat×AV))(t:Nat):Option AV:=
  match lkp t env with
  | some v=>some v
  | none=>lkp t fr
def getA(e:Nat→Option AV):At→Option AV
  | .t n=>e n
  | .c v=>some v
def getAs(e:Nat→Option AV):List At→Option (List AV)
  | []=>some []
  | a::as=>match getA e a,getAs e as with
    | some v,some vs=>some (v::vs)
    | _,_=>none
def intBin(op:BinOp)(k:IntKind)(a b:Int):Option AV:=
  match op with
  | .add=>some (.int k (k.wrap (a+b)))
  | .sub=>some (.int k (k.wrap (a-b)))
  | .mul=>some (.int k (k.wrap (a*b)))
  | .quo=>if b=0 then none else some (.int k (k.wrap (a.tdiv b)))
  | .rem=>if b=0 then none else some (.int k (a.tmod b))
  | .and=>some (.int k (k.wrap (BitVec.ofInt k.bits a &&& BitVec.ofInt k.bits b).toNat))
  | .or=>some (.int k (k.wrap (BitVec.ofInt k.bits a ||| BitVec.ofInt k.bits b).toNat))
  | .xor=>some (.int k (k.wrap (BitVec.ofInt k.bits a ^^^ BitVec.ofInt k.bits b).toNat))
  | .andNot=>some (.int k (k.wrap (BitVec.ofInt k.bits a &&& ~~~ BitVec.ofInt k.bits b).toNat))
  | .eql=>some (.bool (a == b))
  | .neq=>some (.bool (a != b))
  | .lss=>some (.bool (decide (a<b)))
  | .leq=>some (.bool (decide (a≤b)))
  | .gtr=>some (.bool (decide (b<a)))
  | .geq=>some (.bool (decide (b≤a)))
  | _=>none
def strMax:Nat:=1099511627776
def strBin(op:BinOp)(a b:List UInt8):Option AV:=
  match op with
  | .add=>if a.length+b.length≤strMax then some (.str (a++b))else none
  | .eql=>some (.bool (a == b))
  | .neq=>some (.bool (!(a == b)))
  | .lss=>some (.bool (Op.bytesLess a b))
  | .leq=>some (.bool (Op.bytesLess a b||a == b))
  | .gtr=>some (.bool (!(Op.bytesLess a b||a == b)))
  | .geq=>some (.bool (!(Op.bytesLess a b)))
  | _=>none
def binAV(op:BinOp):AV→AV→Option AV
  | .int k a,.int k' b=>
    if op=.shl∨op=.shr then
      (if b<0 then none else some (.int k (if op=.shl then k.wrap (a*2 ^ (Nat.min b.toNat k.bits))else a.fdiv (2 ^ (Nat.min b.toNat k.bits)))))
    else if k=k' then intBin op k a b else none
  | .str a,.str b=>strBin op a b
  | _,_=>none
def unAV(op:UnOp):AV→Option AV
  | .bool b=>match op with | .not=>some (.bool (!b)) | _=>none
  | .int k n=>match op with
    | .neg=>some (.int k (k.wrap (0-n)))
    | .xor=>some (.int k (k.wrap (BitVec.ofInt k.bits (if k.signed then -1 else k.max) ^^^ BitVec.ofInt k.bits n).toNat))
    | _=>none
  | _=>none
def eqCells:List EK→List AV→List AV→Option Bool
  | [],[],[]=>some true
  | .i::ks,.int k a::x,.int k' b::y=>if k=k' then (if a=b then eqCells ks x y else some false)else none
  | .s::ks,.str a::x,.str b::y=>if a=b then eqCells ks x y else some false
  | .b::ks,.bool a::x,.bool b::y=>if a=b then eqCells ks x y else some false
  | _,_,_=>none
def mkVal(agg:Bool)(size:Nat)(cs:List AV):Option AV:=
  if agg then (if cs.length=size then some (.agg cs)else none)
  else match cs with
    | [v]=>some v
    | _=>none
def cut(cs:List AV)(off size:Nat):List AV:=(cs.drop off).take size
def setAt:List AV→Nat→List AV→List AV
  | base,_,[]=>base
  | base,off,c::cs=>setAt (base.set off c) (off+1) cs
def loadAV(size:Nat)(agg:Bool)(h:Heap):AV→Option AV
  | .ptr l off=>match h[l]? with
    | some (.cellsT _ vs)=>mkVal agg size (cut vs off size)
    | _=>none
  | .fptr row off=>mkVal agg size (cut row off size)
  | .eptr l ver i off=>match h[l]? with
    | some (.arrX _ _ _ ver' rows _)=>if ver=ver' then (match rows[i]? with
      | some row=>mkVal agg size (cut row off size)
      | none=>none)else none
    | _=>none
  | _=>none
def rowsOf(h:Heap):AV→Option (List (List AV))
  | .sl rows=>some rows
  | .tsl rows=>some rows
  | .nils=>some []
  | .own l ver n=>match h[l]? with
    | some (.arrT _ _ ver' rows _)=>if ver=ver'∧n≤rows.length then some (rows.take n)else none
    | _=>none
  | _=>none
def iadrAV(size:Nat)(h:Heap):AV→AV→Option AV
  | .sl rows,.int _ i=>if 0≤i then (match rows[i.toNat]? with
    | some row=>if row.length=size then some (.fptr row 0)else none
    | none=>none)else none
  | .tsl rows,.int _ i=>if 0≤i then (match rows[i.toNat]? with
    | some row=>if row.length=size then some (.fptr row 0)else none
    | none=>none)else none
  | .own l ver n,.int _ i=>match h[l]? with
    | some (.arrX _ _ _ ver' rows _)=>if ver=ver'∧n≤rows.length∧0≤i∧i<n then (match rows[i.toNat]? with
      | some row=>if row.length=size then some (.eptr l ver i.toNat 0)else none
      | none=>none)else none
    | _=>none
  | _,_=>none
def winOf(h:Heap)(l ver lo n:Nat):Option (List (List AV)):=
  match h[l]? with
  | some (.arrT _ _ ver' rows _)=>if ver=ver'∧lo+n≤rows.length then some ((rows.drop lo).take n)else none
  | _=>none
def lenAV(h:Heap):Nat→AV→Option AV
  | 0,.str s=>some (.int .i64 s.length)
  | 1,.sl rows=>some (.int .i64 rows.length)
  | 1,.tsl rows=>some (.int .i64 rows.length)
  | 1,.nils=>some (.int .i64 0)
  | 1,.own _ _ n=>some (.int .i64 n)
  | 2,.map l=>match h[l]? with
    | some (.map es)=>some (.int .i64 es.length)
    | _=>none
  | 2,.nilm=>some (.int .i64 0)
  | _,_=>none
def keyEq:EK→AV→AV→Option Bool
  | .s,.str a,.str b=>some (a == b)
  | .i,.int k a,.int k' b=>if k=k' then some (a == b)else none
  | .b,.bool a,.bool b=>some (a == b)
  | _,_,_=>none
def mget(e:EK)(k:AV):List (AV×AV)→Option (Option AV)
  | []=>some none
  | (k',v)::r=>match keyEq e k k' with
    | some true=>some (some v)
    | some false=>mget e k r
    | none=>none
def mput(e:EK)(k v:AV):List (AV×AV)→Option (List (AV×AV))
  | []=>some [(k,v)]
  | (k',u)::r=>match keyEq e k k' with
    | some true=>some ((k',v)::r)
    | some false=>(mput e k v r).map ((k',u)::·)
    | none=>none
def isKey:EK→AV→Bool
  | .s,.str _=>true
  | .i,.int _ _=>true
  | .b,.bool _=>true
  | _,_=>false
def plainCells:List EK→List AV→Bool
  | [],[]=>true
  | k::ks,a::as=>isKey k a&&plainCells ks as
  | _,_=>false
def agget(ks:List EK)(as:List AV):List (AV×AV)→Option (Option AV)
  | []=>some none
  | (.agg bs,v)::r=>if bs.length=ks.length then (match eqCells ks as bs with
    | some true=>some (some v)
    | some false=>agget ks as r
    | none=>none)else none
  | _=>none
def agput(ks:List EK)(as:List AV)(v:AV):List (AV×AV)→Option (List (AV×AV))
  | []=>some [(.agg as,v)]
  | (.agg bs,u)::r=>if bs.length=ks.length then (match eqCells ks as bs with
    | some true=>some ((.agg bs,v)::r)
    | some false=>(agput ks as v r).map ((.agg bs,u)::·)
    | none=>none)else none
  | _=>none
def slc1(b:Bool)(bs:List AV):Option (Option Int×List AV):=
  if b then (match bs with
    | .int _ n::r=>some (some n,r)
    | _=>none)
  else some (none,bs)
def slcArgs(lo hi mx:Bool)(bs:List AV):Option (Option Int×Option Int×Option Int):=
  match slc1 lo bs with
  | some (l,b1)=>match slc1 hi b1 with
    | some (r,b2)=>match slc1 mx b2 with
      | some (m,[])=>some (l,r,m)
      | _=>none
    | none=>none
  | none=>none
def sizesOk(n:Nat):List (List AV)→Bool
  | []=>true
  | r::rs=>r.length=n&&sizesOk n rs
def slcStr(s:List UInt8)(lo hi:Option Int):Option AV:=
  if 0≤lo.getD 0∧lo.getD 0≤hi.getD s.length∧hi.getD s.length≤s.length then some (.str ((s.take (hi.getD s.length).toNat).drop (lo.getD 0).toNat))else none
def slcRows(size:Nat)(rows:List (List AV))(lo hi:Option Int):Option Int→Option AV
  | none=>if 0≤lo.getD 0∧lo.getD 0≤hi.getD rows.length∧hi.getD rows.length≤rows.length∧sizesOk size rows then some (.sl ((rows.take (hi.getD rows.length).toNat).drop (lo.getD 0).toNat))else none
  | some m=>if hi=some m∧0≤lo.getD 0∧lo.getD 0≤m∧m≤rows.length∧sizesOk size rows then some (.tsl ((rows.take m.toNat).drop (lo.getD 0).toNat))else none
def slcAV(size:Option Nat)(x:AV)(lo hi mx:Option Int):Option AV:=
  match size,x with
  | none,.str s=>if mx.isNone then slcStr s lo hi else none
  | some n,.sl rows=>slcRows n rows lo hi mx
  | some n,.tsl rows=>if mx.isNone then slcRows n rows lo hi none else none
  | some _,.nils=>if mx.isNone∧lo.getD 0=0∧hi.getD 0=0 then some .nils else none
  | _,_=>none
def bldAV:List AV→List (Nat×Nat)→List AV→Option (List AV)
  | base,[],[]=>some base
  | base,(off,size)::ps,v::vs=>if v.cells.length=size∧0<size∧off+size≤base.length then bldAV (setAt base off v.cells) ps vs else none
  | _,_,_=>none
def minAV:AV→AV→Option AV
  | .int k x,.int k' y=>if k=k' then some (.int k (if y<x then y else x))else none
  | _,_=>none
def maxAV:AV→AV→Option AV
  | .int k x,.int k' y=>if k=k' then some (.int k (if x<y then y else x))else none
  | _,_=>none
def bytesOfRows:List (List AV)→Option (List UInt8)
  | []=>some []
  | [.int .u8 n]::r=>if 0≤n∧n<256 then (bytesOfRows r).map (UInt8.ofNat n.toNat::·)else none
  | _=>none
def thereI:AV→Option Bool
  | .nili=>some false
  | .iface _ _=>some true
  | _=>none
def thereP:AV→Option Bool
  | .nilp=>some false
  | .ptr _ _=>some true
  | .fptr _ _=>some true
  | .eptr _ _ _ _=>some true
  | .gptr _ _=>some true
  | _=>none
def there:AV→Option Bool
  | .nils=>some false
  | .sl (_::_)=>some true
  | .tsl (_::_)=>some true
  | .own _ _ (_+1)=>some true
  | _=>none
def entAV(h:Heap)(l:Nat):Option AV:=
  match h[l]? with
  | some (.mit (some m) _ seen last)=>(match seen.getLast?,h[m]? with
    | some i,some (.map es)=>if es.length=last then (match es[i]? with
      | some (k,v)=>some (.tup [k,v])
      | none=>none)else none
    | _,_=>none)
  | _=>none
def mnxAV(h:Heap)(l:Nat):Option (List (AV×Heap)):=
  match h[l]? with
  | some (.mit none _ _ _)=>some [(.tup [.bool false],h.set l .dead)]
  | some (.mit (some m) n seen last)=>(match h[m]? with
    | some (.map es)=>if es.length=n∧last=n then
        (match (List.range n).filter fun i=>!seen.contains i with
          | []=>some [(.tup [.bool false],h.set l .dead)]
          | i::is=>some ((i::is).map fun i=>(.tup [.bool true,(es[i]?.getD (.junk,.junk)).1,(es[i]?.getD (.junk,.junk)).2],h.set l (.mit (some m) n (seen++[i]) n))))
      else none
    | _=>none)
  | _=>none
def slcH(size:Option Nat)(h:Heap)(x:AV)(lo hi mx:Option Int):Option AV:=
  match size,x with
  | some sz,.own l ver n=>match h[l]? with
    | some (.arrT _ sz' ver' rows _)=>if sz'=sz∧ver'=ver∧mx=none∧0≤lo.getD 0∧lo.getD 0<hi.getD n∧hi.getD n≤n∧n≤rows.length then some (.win l ver (lo.getD 0).toNat (hi.getD n-lo.getD 0).toNat)else none
    | _=>none
  | _,_=>slcAV size x lo hi mx
@[simp] theorem slcH_str{h:Heap}{s:List UInt8}{lo hi mx:Option Int}:slcH none h (.str s) lo hi mx=slcAV none (.str s) lo hi mx:=rfl
@[simp] theorem slcH_sl{h:Heap}{n:Nat}{rows:List (List AV)}{lo hi mx:Option Int}:slcH (some n) h (.sl rows) lo hi mx=slcAV (some n) (.sl rows) lo hi mx:=rfl
@[simp] theorem slcH_tsl{h:Heap}{n:Nat}{rows:List (List AV)}{lo hi mx:Option Int}:slcH (some n) h (.tsl rows) lo hi mx=slcAV (some n) (.tsl rows) lo hi mx:=rfl
@[simp] theorem slcH_nils{h:Heap}{n:Nat}{lo hi mx:Option Int}:slcH (some n) h .nils lo hi mx=slcAV (some n) .nils lo hi mx:=rfl
def evalPure(h:Heap):AO→List AV→Option AV
  | .mv,[x]=>some x
  | .pick,[.bool c,x,y]=>some (if c then x else y)
  | .strid,[.str s]=>some (.str s)
  | .bin op,[x,y]=>binAV op x y
  | .eqA neg ks,[.agg xs,.agg ys]=>if xs.length=ks.length∧ys.length=ks.length then (eqCells ks xs ys).map fun b=>.bool (if neg then !b else b)else none
  | .eqB neg,[.bool x,.bool y]=>some (.bool (if neg then !(x == y)else x == y))
  | .un op,[x]=>unAV op x
  | .conv k,[.int _ n]=>some (.int k (k.wrap n))
  | .fadr o,[.ptr l off]=>some (.ptr l (off+o))
  | .fadr o,[.fptr row off]=>some (.fptr row (off+o))
  | .fadr o,[.eptr l ver i off]=>some (.eptr l ver i (off+o))
  | .fld off size agg,[.agg cs]=>mkVal agg size (cut cs off size)
  | .iadr size,[x,i]=>iadrAV size h x i
  | .aadr len size,[.ptr l off,.int _ i]=>if 0≤i∧i<len∧2≤len then some (.ptr l (off+i.toNat*size))else none
  | .aadr len size,[.fptr row off,.int _ i]=>if 0≤i∧i<len∧2≤len then some (.fptr row (off+i.toNat*size))else none
  | .istr,[.str s,.int _ i]=>if 0≤i then (match s[i.toNat]? with
    | some b=>some (.int .u8 b.toNat)
    | none=>none)else none
  | .iarr len size agg,[.agg cs,.int _ i]=>if 0≤i∧i<len then mkVal agg size (cut cs (i.toNat*size) size)else none
  | .ld size agg,[a]=>loadAV size agg h a
  | .len k,[x]=>lenAV h k x
  | .ent,[.ptr l 0]=>entAV h l
  | .lookA ks ok zero,[m,.agg as]=>if as.length=ks.length then (match m with
    | .map l=>(match h[l]? with
      | some (.map es)=>(agget ks as es).map fun r=>if ok then .tup [r.getD zero,.bool r.isSome]else r.getD zero
      | _=>none)
    | .nilm=>some (if ok then .tup [zero,.bool false]else zero)
    | _=>none)else none
  | .ext i,[.tup vs]=>vs[i]?
  | .look e ok zero,[m,k]=>
    if isKey e k then
      match m with
      | .map l=>match h[l]? with
        | some (.map es)=>(mget e k es).map fun
          | some v=>if ok then .tup [v,.bool true]else v
          | none=>if ok then .tup [zero,.bool false]else zero
        | _=>none
      | .nilm=>some (if ok then .tup [zero,.bool false]else zero)
      | _=>none
    else none
  | .mkfn f,caps=>some (.fn f caps)
  | .mkmth f,[x]=>some (.mth f x)
  | .mkif t,[x]=>some (.iface t x)
  | .slc size lo hi mx,x::bs=>match slcArgs lo hi mx bs with
    | some (l,r,m)=>slcH size h x l r m
    | none=>none
  | .bld zero parts,vs=>(bldAV zero parts vs).map .agg
  | .min,[x,y]=>minAV x y
  | .max,[x,y]=>maxAV x y
  | .nilck,[.ptr l off]=>some (.ptr l off)
  | .nilck,[.fptr row off]=>some (.fptr row off)
  | .nilck,[.eptr l ver i off]=>some (.eptr l ver i off)
  | .nilck,[.fn f caps]=>some (.fn f caps)
  | .b2s,[x]=>match rowsOf h x with
    | some rows=>(bytesOfRows rows).map .str
    | none=>none
  | .isnil neg,[x]=>(there x).map fun b=>.bool (if neg then b else !b)
  | .usd,[.nils]=>some .nilp
  | .usd,[.own l ver n]=>if n=0 then (match h[l]? with
      | some (.arrT (some _) _ ver' [] _)=>if ver=ver' then some .nilp else none
      | _=>none)else some (.eptr l ver 0 0)
  | .isnili neg,[x]=>(thereI x).map fun b=>.bool (if neg then b else !b)
  | .isnilp neg,[x]=>(thereP x).map fun b=>.bool (if neg then b else !b)
  | _,_=>none
def slcPre(size:Nat)(x:AV)(lo hi mx:Option Int):Option AV:=
  match x with
  | .own l ver n=>if mx.isNone∧lo.getD 0=0∧0≤hi.getD n∧hi.getD n≤n then some (.own l ver (hi.getD n).toNat)else none
  | _=>slcAV (some size) x lo hi mx
mutual
def view(h:Heap):AV→Option AV
  | .bool b=>some (.bool b)
  | .int k n=>some (.int k n)
  | .str s=>some (.str s)
  | .agg cs=>(viewL h cs).map .agg
  | .sl rows=>some (.sl rows)
  | .tsl rows=>some (.sl rows)
  | .nils=>some (.sl [])
  | .own l ver n=>(rowsOf h (.own l ver n)).map .sl
  | .win l ver lo n=>(winOf h l ver lo n).map .sl
  | .fptr row off=>some (.fptr row off)
  | .nilp=>some .nilp
  | .nilm=>some .nilm
  | .nilf=>some .nilf
  | .nili=>some .nili
  | .fn f caps=>(viewL h caps).map (.fn f)
  | .iface t v=>(view h v).map (.iface t)
  | .tup vs=>(viewL h vs).map .tup
  | _=>none
def viewL(h:Heap):List AV→Option (List AV)
  | []=>some []
  | a::as=>match view h a,viewL h as with
    | some v,some vs=>some (v::vs)
    | _,_=>none
end
mutual
def viewK(h:Heap):AV→Option AV
  | .bool b=>some (.bool b)
  | .int k n=>some (.int k n)
  | .str s=>some (.str s)
  | .agg cs=>(viewKL h cs).map .agg
  | .sl rows=>some (.sl rows)
  | .tsl rows=>some (.tsl rows)
  | .nils=>some .nils
  | .own l ver n=>(rowsOf h (.own l ver n)).map .sl
  | .fptr row off=>some (.fptr row off)
  | .nilp=>some .nilp
  | .nilm=>some .nilm
  | .nilf=>some .nilf
  | .nili=>some .nili
  | .fn f caps=>(viewKL h caps).map (.fn f)
  | .iface t v=>(viewK h v).map (.iface t)
  | .tup vs=>(viewKL h vs).map .tup
  | _=>none
def viewKL(h:Heap):List AV→Option (List AV)
  | []=>some []
  | a::as=>match viewK h a,viewKL h as with
    | some v,some vs=>some (v::vs)
    | _,_=>none
end
mutual
def owns:AV→List Nat
  | .own l _ _=>[l]
  | .win l _ _ _=>[l]
  | .agg cs=>ownsL cs
  | .fn _ caps=>ownsL caps
  | .mth _ v=>owns v
  | .iface _ v=>owns v
  | .tup vs=>ownsL vs
  | _=>[]
def ownsL:List AV→List Nat
  | []=>[]
  | a::as=>owns a++ownsL as
end
def freeze1(h:Heap)(l:Nat):Heap:=
  match h[l]? with
  | some (.arrT tg n ver rows _)=>h.set l (.arrT tg n ver rows false)
  | _=>h
def freezeAll(h:Heap):List Nat→Heap
  | []=>h
  | l::ls=>freezeAll (freeze1 h l) ls
def frz(h:Heap)(v:AV):Option (AV×Heap):=(view h v).map fun u=>(u,freezeAll h (owns v))
def frzL(h:Heap)(vs:List AV):Option (List AV×Heap):=(viewL h vs).map fun us=>(us,freezeAll h (ownsL vs))
def frzK(h:Heap)(v:AV):Option (AV×Heap):=(viewK h v).map fun u=>(u,freezeAll h (owns v))
def frzKL(h:Heap)(vs:List AV):Option (List AV×Heap):=(viewKL h vs).map fun us=>(us,freezeAll h (ownsL vs))
def viewRows(h:Heap):List (List AV)→Option (List (List AV))
  | []=>some []
  | r::rs=>match viewL h r,viewRows h rs with
    | some v,some vs=>some (v::vs)
    | _,_=>none
def settle1(h:Heap):AV→Option Heap
  | .own l _ _=>match h[l]? with
    | some (.arrX true tg sz ver rows wr)=>(viewRows h rows).map fun rows'=>(freezeAll h (ownsL rows.flatten)).set l (.arrX false tg sz ver rows' wr)
    | _=>some h
  | _=>some h
def settleL(h:Heap):List AV→Option Heap
  | []=>some h
  | a::as=>match settle1 h a with
    | some h1=>settleL h1 as
    | none=>none
def preAV(k:PK)(h:Heap)(vs:List AV):Option (Heap×List AV):=
  match k with
  | .settle=>(settleL h vs).map fun h1=>(h1,vs)
  | .nest=>match vs with
    | [.eptr l ver i off,v]=>match h[l]? with
      | some (.arrX false tg sz ver' rows true)=>if (owns v).isEmpty then some (h,vs)else some (h.set l (.arrX true tg sz ver' rows true),[.eptr l ver i off,v])
      | _=>some (h,vs)
    | _=>some (h,vs)
  | .frzv=>match vs with
    | [a,v]=>(frz h v).map fun r=>(r.2,[a,r.1])
    | _=>none
  | .spare m=>some (h++[.arr m 0 [] true],vs)
  | .slot p=>match vs with
    | .nils::r=>match h[p]? with
      | some (.arrX false _ sz ver _ _)=>some (h.set p (.arr sz (ver+1) [] true),.own p (ver+1) 0::r)
      | _=>none
    | _=>some (h,vs)
def preAVs:List PK→Heap→List AV→Option (Heap×List AV)
  | [],h,vs=>some (h,vs)
  | k::ks,h,vs=>match preAV k h vs with
    | some (h1,vs1)=>preAVs ks h1 vs1
    | none=>none
def slcOwn(size:Nat)(h:Heap)(x:AV)(lo hi mx:Option Int):Option (AV×Heap):=
  match slcPre size x lo hi mx with
  | some v=>some (v,h)
  | none=>match x with
    | .own l ver n=>match frz h (.own l ver n)with
      | some (.sl rows,h1)=>(slcRows size rows lo hi mx).map fun v=>(v,h1)
      | _=>none
    | _=>none
mutual
def scalar:AV→Bool
  | .bool _ | .int _ _ | .str _=>true
  | .tup vs=>scalarL vs
  | _=>false
def scalarL:List AV→Bool
  | []=>true
  | a::as=>scalar a&&scalarL as
end
abbrev RdF:=Nat→Heap→Option (Option (List AV)×Heap)
abbrev ItF:=List AV→Heap→RdF
inductive CT where
  | pure (F:List AV→Option AV)
  | gen (F:List AV→Heap→Option (AV×Heap))
  | iter (F:ItF)
structure Gam where
  fn:FuncId→Option CT
  y:Nat→List AV→Heap→Option (AV×Heap)
instance:CoeFun Gam (fun _=>FuncId→Option CT):=⟨Gam.fn⟩
def callAV(G:Gam)(f:FuncId)(args:List AV)(h:Heap):Option (AV×Heap):=
  match G f with
  | some (.pure F)=>match viewL h args with
    | some us=>match F us with
      | some r=>if scalar r then some (r,h)else some (r,freezeAll h (ownsL args))
      | none=>none
    | none=>none
  | some (.gen F)=>F args h
  | _=>none
def oneC:AV→Bool
  | .agg _ | .tup _ | .junk=>false
  | _=>true
def onesOk:List (List AV)→Bool
  | []=>true
  | r::rs=>r.all oneC&&onesOk rs
def appRows(h:Heap)(str:Bool)(x:AV):Option (List (List AV)):=
  if str then (match x with
    | .str s=>some (s.map fun b=>[.int .u8 b.toNat])
    | _=>none)
  else rowsOf h x
def byteMax:Nat:=140737488355328
def tagJoin(tg te:Option TypeId):Option TypeId:=if tg=te then te else none
@[simp] theorem tagJoin_none(tg:Option TypeId):tagJoin tg none=none:=by unfold tagJoin; split <;> rfl
@[simp] theorem tagJoin_same(tg:Option TypeId):tagJoin tg tg=tg:=by simp [tagJoin]
def appAV(te:Option TypeId)(size bytes:Nat)(h:Heap)(s:AV)(new:List (List AV)):Option (AV×Heap):=
  match s with
  | .own l ver n=>match h[l]? with
    | some (.arrT tg sz ver' rows wr)=>
      if ver=ver'∧n=rows.length∧wr=true∧sz=size then
        (if new=[]then some (.own l ver n,h)
         else if (n+new.length)*bytes≤byteMax∧n+new.length≤byteMax then some (.own l (ver+new.length) (n+new.length),h.set l (.arrT (tagJoin tg te) size (ver+new.length) (rows++new) true))else none)
      else none
    | _=>none
  | .nils=>
    if new=[]then some (.nils,h)
    else if new.length*bytes≤byteMax∧new.length≤byteMax then some (.own h.length 0 new.length,h++[.arrT te size 0 new true])else none
  | .tsl rows=>
    if new=[]then some (.tsl rows,h)
    else if (rows.length+new.length)*bytes≤byteMax∧rows.length+new.length≤byteMax∧sizesOk size rows then some (.own h.length 0 (rows.length+new.length),h++[.arrT te size 0 (rows++new) true])else none
  | _=>none
def stAV(size:Nat)(h:Heap)(a v:AV):Option Heap:=
  if v.cells.length=size∧0<size∧v.cells.all oneC then
    match a with
    | .ptr l off=>match h[l]? with
      | some (.cellsT tg vs)=>if off+size≤vs.length then some (h.set l (.cellsT tg (setAt vs off v.cells)))else none
      | _=>none
    | .eptr l ver i off=>match h[l]? with
      | some (.arrX true tg sz ver' rows true)=>if ver=ver' then (match rows[i]? with
          | some row=>if off+size≤row.length then some (h.set l (.arrX true tg sz ver (rows.set i (setAt row off v.cells)) true))else none
          | none=>none)else none
      | _=>match frz h v with
        | some (u,h1)=>match h1[l]? with
          | some (.arrT tg sz ver' rows true)=>if ver=ver' then (match rows[i]? with
            | some row=>if off+size≤row.length∧u.cells.length=size∧u.cells.all oneC then some (h1.set l (.arrT tg sz ver (rows.set i (setAt row off u.cells)) true))else none
            | none=>none)else none
          | _=>none
        | none=>none
    | _=>none
  else none
def boxBAV(t e:TypeId)(h:Heap):AV→Option (AV×Heap)
  | .agg [.nilp,.nils]=>some (.ptr (h.length+1) 0,h++[.arrT (some e) 1 0 [] true]++[.cellsT (some t) [.nilp,.own h.length 0 0]])
  | _=>none
def evalEff(G:Gam)(h:Heap):AO→List AV→Option (AV×Heap)
  | .alloc zero,[]=>some (.ptr h.length 0,h++[.cells zero])
  | .box,[v]=>match v.cells with
    | []=>none
    | c::cs=>some (.ptr h.length 0,h++[.cells (c::cs)])
  | .st size,[a,v]=>(stAV size h a v).map fun h'=>(.junk,h')
  | .newnil size,[]=>some (.own h.length 0 0,h++[.arr size 0 [] true])
  | .mkmap,[]=>some (.map h.length,h++[.map []])
  | .mapup e,[.map l,k,v]=>if isKey e k then (match frz h v with
    | some (u,h1)=>match h1[l]? with
      | some (.map es)=>(mput e k u es).map fun es'=>(.junk,h1.set l (.map es'))
      | _=>none
    | none=>none)else none
  | .mapupA ks,[.map l,.agg as,v]=>if plainCells ks as∧as.length=ks.length then (match frz h v with
    | some (u,h1)=>match h1[l]? with
      | some (.map es)=>(agput ks as u es).map fun es'=>(.junk,h1.set l (.map es'))
      | _=>none
    | none=>none)else none
  | .ment e z,[.map l,k]=>if isKey e k then (match h[l]? with
    | some (.map es)=>(match mget e k es with
      | some none=>some (.tup [z,.int .i64 es.length],h.set l (.map (es++[(k,z)])))
      | _=>none)
    | _=>none)else none
  | .estore,[.map l,.int .i64 i,v]=>if 0≤i then (match frz h v with
    | some (u,h1)=>match h1[l]? with
      | some (.map es)=>(es[i.toNat]?).map fun q=>(.junk,h1.set l (.map (es.set i.toNat (q.1,u))))
      | _=>none
    | none=>none)else none
  | .mksl zero bytes,[.int _ n,.int _ c]=>if 0≤n∧n≤c∧c.toNat*bytes≤byteMax∧c.toNat≤byteMax then some (.own h.length 0 n.toNat,h++[.arr zero.length 0 (List.replicate n.toNat zero) true])else none
  | .bsl own size,vs=>match frzL h vs with
    | some (us,h1)=>if sizesOk size (us.map AV.cells)∧onesOk (us.map AV.cells)∧0<size∧us.length*size≤16777216 then
        (if own then some (.own h1.length 0 us.length,h1++[.arr size 0 (us.map AV.cells) true])else some (.tsl (us.map AV.cells),h1))else none
    | none=>none
  | .bslK own size,vs=>match frzKL h vs with
    | some (us,h1)=>if sizesOk size (us.map AV.cells)∧onesOk (us.map AV.cells)∧0<size∧us.length*size≤16777216 then
        (if own then some (.own h1.length 0 us.length,h1++[.arr size 0 (us.map AV.cells) true])else some (.tsl (us.map AV.cells),h1))else none
    | none=>none
  | .app str size bytes,[s,x]=>match appRows h str x with
    | some new=>if sizesOk size new then appAV none size bytes h s new else none
    | none=>none
  | .appT str size bytes e,[s,x]=>match appRows h str x with
    | some new=>if sizesOk size new then appAV (some e) size bytes h s new else none
    | none=>none
  | .boxB t e,[a]=>boxBAV t e h a
  | .allocB t e,[]=>some (.ptr (h.length+1) 0,h++[.arrT (some e) 1 0 [] true]++[.cellsT (some t) [.nilp,.own h.length 0 0]])
  | .ustr _,[.nilp,.int .i64 n]=>if n=0 then some (.str [],h)else none
  | .ustr e,[.eptr l ver 0 0,.int .i64 n]=>match h[l]? with
    | some (.arrT tg 1 ver' rows true)=>if tg=some e∧ver=ver'∧0<rows.length∧n=rows.length∧rows.length≤byteMax then (bytesOfRows rows).map fun bs=>(.str bs,h.set l .dead)else none
    | _=>none
  | .nxt,[.ptr l 0]=>match h[l]? with
    | some (.iter s pos)=>if pos<s.length then some (.tup [.bool true,.int .i64 pos,.int .i32 (Utf8.decode ⟨s.toArray⟩ pos).1],h.set l (.iter s (pos+(Utf8.decode ⟨s.toArray⟩ pos).2)))else some (.tup [.bool false],h)
    | _=>none
  | .rng,[.str s]=>some (.ptr h.length 0,h++[.iter s 0])
  | .rngm,[.map m]=>match h[m]? with
    | some (.map es)=>some (.ptr h.length 0,h++[.mit (some m) es.length [] es.length])
    | _=>none
  | .rngm,[.nilm]=>some (.ptr h.length 0,h++[.mit none 0 [] 0])
  | .call f,args=>callAV G f args h
  | .callg f,args=>callAV G f args h
  | .callv,.fn f caps::args=>callAV G f (args++caps) h
  | .callv,.mth f v::args=>callAV G f (v::args) h
  | .callv,.yld k::args=>G.y k args h
  | .slcf size lo hi mx,x::bs=>match slcArgs lo hi mx bs with
    | some (l,r,m)=>slcOwn size h x l r m
    | none=>none
  | .s2b,[.str s]=>if s.length≤byteMax then some (.own h.length 0 s.length,h++[.arr 1 0 (s.map fun b=>[AV.int .u8 b.toNat]) true])else none
  | .cpy str size,[.own l ver n,x]=>match appRows h str x with
    | some sr=>if sizesOk size sr then (if sr=[]then some (.int .i64 0,h)else (match h[l]? with
      | some (.arrT tg sz ver' rows true)=>if ver=ver'∧n≤rows.length∧sr.length≤n∧sz=size then some (.int .i64 sr.length,h.set l (.arrT tg size ver (sr++rows.drop sr.length) true))else none
      | _=>none))else none
    | none=>none
  | _,_=>none
def AO.quiet:AO→Bool
  | .alloc _ | .box | .st _ | .newnil _ | .mkmap | .mapup _ | .mapupA _ | .ment _ _ | .estore | .mksl _ _ | .bsl _ _ | .app _ _ _ | .rng | .rngm | .nxt | .call _ | .callv | .cpy _ _ | .slcf _ _ _ _ | .callg _ | .appT _ _ _ _ | .allocB _ _ | .boxB _ _ | .ustr _ | .bslK _ _ | .s2b | .pre _ _=>false
  | _=>true
def evalAO(G:Gam)(h:Heap)(o:AO)(args:List AV):Option (AV×Heap):=
  if o.quiet then (match evalPure h o args with
    | some v=>some (v,h)
    | none=>none)
  else evalEff G h o args
def evalAll(G:Gam)(h:Heap)(o:AO)(args:List AV):Option (AV×Heap):=
  match o with
  | .pre ks o=>match preAVs ks h args with
    | some (h1,vs1)=>evalAO G h1 o vs1
    | none=>none
  | o=>evalAO G h o args
def bindR(dst:Option Nat)(kept:Bool)(env fr:List (Nat×AV)):Option (AV×Heap)→R
  | none=>.bad
  | some (v,h)=>match dst with
    | none=>.ok env fr h
    | some t=>if kept then .ok env (upd t v fr) h else .ok ((t,v)::env) fr h
def skipped:AV:=.tup []
def evalStill(G:Gam)(h:Heap)(o:AO)(args:List AV):Option AV:=
  if o.quiet then evalPure h o args
  else match o with
    | .call f=>match G f with
      | some (.pure F)=>match viewL h args with
        | some us=>match F us with
          | some r=>if scalar r then some r else if ownsL args=[]then some r else none
          | none=>none
        | none=>none
      | _=>none
    | .bsl false size=>if ownsL args=[]then (match viewL h args with
        | some us=>if sizesOk size (us.map AV.cells)∧onesOk (us.map AV.cells)∧0<size∧us.length*size≤16777216 then some (.tsl (us.map AV.cells))else none
        | none=>none)else none
    | .slcf size lo hi mx=>match args with
      | x::bs=>(match slcArgs lo hi mx bs with
        | some (l,r,m)=>slcPre size x l r m
        | none=>none)
      | []=>none
    | _=>none
def AO.loud:AO→Bool
  | .call _ | .bsl false _ | .slcf _ _ _ _=>false
  | o=>!o.quiet
def AO.turns(o:AO):Bool:=match o with
  | .pre _ _=>false
  | o=>o.loud
def stepV(G:Gam)(still:Bool)(i:MI)(e:Nat→Option AV)(h:Heap):Option (AV×Heap):=
  let go:Option (AV×Heap):=match getAs e i.args with
    | some vs=>if still&&!i.o.loud then (evalStill G h i.o vs).map fun v=>(v,h)else evalAll G h i.o vs
    | none=>none
  match i.g with
  | none=>go
  | some (t,want)=>match e t with
    | some (.bool b)=>if b=want then go else some (skipped,h)
    | some (.tup [])=>some (skipped,h)
    | _=>none
def evalI(G:Gam)(still:Bool)(i:MI):R→R
  | .bad=>.bad
  | .ok env fr h=>bindR i.dst i.kept env fr (stepV G still i (getT env fr) h)
def run(G:Gam)(still:Bool):List MI→R→R
  | [],r=>r
  | i::is,r=>run G still is (evalI G still i r)
end Go.Proofs.YtpefhfiehfkocaaGreatDoor
namespace Go.Proofs.YtpefhfiehfkocaaGreatDoor
open Go.RowKit
def blockOf(C:Cx)(l:Nat):Blk→Option Nat
  | .cellsT _ _=>C.bl l
  | .arrX _ _ _ ver _ _=>match C.ar l ver with
    | some (some r)=>some r.block
    | _=>none
  | .map _=>C.bl l
  | .iter _ _=>C.bl l
  | .lp _ _=>C.bl l
  | .mit _ _ _ _=>C.bl l
  | .dead=>none
structure Gv where
  fn:Nat→Option (List AV)
  tb:Nat→Option (List Value)
instance:CoeFun Gv (fun _=>Nat→Option (List AV)):=⟨Gv.fn⟩
def TbOK(gv:Gv)(n:Nat)(w:World):Prop:=∀ g cs,gv.tb g=some cs→g<n∧∃ T fz,w.heap[g]?=some (.cells cs.toArray T fz)
theorem TbOK.mono{gv:Gv}{n:Nat}{w w':World}(h:TbOK gv n w)(hk:∀ k,k<n→k<w.heap.size→w'.heap[k]?=w.heap[k]?):TbOK gv n w':=fun g cs hg=>by
  obtain ⟨h1,T,fz,h2⟩:=h g cs hg;exact ⟨h1,T,fz,(hk g h1 (Array.getElem?_eq_some_iff.1 h2).1).trans h2⟩
structure Base where
  n:Nat
  lo:Nat→Nat→Option Value
  gv:Gv
  rc:Nat→Option (Nat×Loop)
  cx:Cx
instance:Coe Base Nat:=⟨Base.n⟩
def Base.Up(B D:Base):Prop:=∃ rc cx,D={ B with rc:=rc,cx:=cx }∧(∀ l x,B.rc l=some x→rc l=some x)∧B.cx.Le cx
theorem Base.Up.refl(B:Base):B.Up B:=⟨B.rc,B.cx,rfl,fun _ _ h=>h,.refl _⟩
theorem Base.Up.trans{B D E:Base}(h:B.Up D)(k:D.Up E):B.Up E:=by
  obtain ⟨rc,cx,rfl,h1,h2⟩:=h;obtain ⟨rc',cx',rfl,k1,k2⟩:=k;exact ⟨rc',cx',rfl,fun l x hx=>k1 l x (h1 l x hx),h2.trans k2⟩
def MX.code:MX→Option Code
  | .normal=>none
  | .exit id=>some (.exit id)
  | .ret=>some .ret
def lpState(busy:Bool)(x:MX):LoopState:=if busy then .busy else if x.code.isNone then .ready else .done
def tagOK(tg:Option TypeId)(e:TypeId):Prop:=∀ t,tg=some t→e=t
theorem tagOK_none(e:TypeId):tagOK none e:=fun t h=>by cases h
def tagArr(tg:Option TypeId)(e:TypeId)(rows:List (List AV)):Prop:=tagOK tg e∧(tg≠none→rows≠[])
theorem tagArr_none(e:TypeId)(rows:List (List AV)):tagArr none e rows:=⟨tagOK_none e,fun h=>absurd rfl h⟩
theorem tagArr.len{tg:Option TypeId}{e:TypeId}{rows rows':List (List AV)}(h:tagArr tg e rows)(hl:rows.length≤rows'.length):tagArr tg e rows':=
  ⟨h.1,fun ht e=>h.2 ht (List.eq_nil_of_length_eq_zero (by subst e; simpa using hl))⟩
def mitB(C:Cx)(m mo:Option Nat):Prop:=match m with
  | none=>mo=none
  | some k=>∃ bm,C.bl k=some bm∧mo=some bm
theorem mitB.mono{C D:Cx}{m mo:Option Nat}(h:mitB C m mo)(hl:C.Le D):mitB D m mo:=by
  cases m with
  | none=>exact h
  | some k=>obtain ⟨bm,h1,h2⟩:=h; exact ⟨bm,hl.bl _ _ h1,h2⟩
def Cx.at(C:Cx)(ne:Bool):Cx:=if ne then C else Cx.pure C.im
theorem Cx.Le.at{C D:Cx}(h:C.Le D)(ne:Bool):(C.at ne).Le (D.at ne):=by
  cases ne
  · exact h.frozen
  · exact h
theorem Cx.at_all(C:Cx)(ne:Bool):(C.at ne).Le C:=by
  cases ne
  · exact C.frozen_le
  · exact .refl _
def BlkOK(B:Base)(C:Cx)(w:World)(l:Nat):Blk→Prop
  | .cellsT tg vs=>∃ b cur e,C.bl l=some b∧B≤b∧w.heap[b]?=some (.cells cur e (0,0))∧(∀ o,C.im b o=none)∧RelL C vs cur.toList∧tagOK tg e
  | .arrX ne tg sz ver rows wr=>(C.ar l ver=some none∧rows=[])∨∃ r cur,C.ar l ver=some (some r)∧B≤r.block∧rows.length≤r.cap∧r.cap≤maxLen∧
      (∀ row∈rows,row.length=r.size)∧w.heap[r.block]?=some (.cells cur r.elem r.fz)∧cur.size=r.cap*r.size∧
      RelL (C.at ne) rows.flatten (cur.toList.take (rows.length*r.size))∧(∀ u∈cur.toList.take (rows.length*r.size),u.oneCell'=true)∧
      (wr=true→∀ o,C.im r.block o=none)∧(wr=false→∀ j u,j<rows.length*r.size→cur[j]?=some u→C.im r.block j=some u)∧r.size=sz∧tagArr tg r.elem rows
  | .map es=>∃ b ms ck,C.bl l=some b∧B≤b∧w.heap[b]?=some (.map ms ck)∧es.length=ms.size∧
      (∀ (i:Nat) k v m,es[i]?=some (k,v)→ms[i]?=some m→Rel (Cx.pure C.im) k m.key∧Rel (Cx.pure C.im) v m.val)∧ck=ms.size∧∀ (i:Nat) m,ms[i]?=some m→m.born=i
  | .iter s pos=>∃ b,C.bl l=some b∧B≤b∧w.heap[b]?=some (.stringIter ⟨s.toArray⟩ pos)
  | .lp busy x=>∃ b r,C.bl l=some b∧B≤b∧B.rc l=some (b,r)∧w.heap[b]?=some (.loop { r with state:=lpState busy x,pending:=x.code })
  | .mit m n seen last=>∃ b mo,C.bl l=some b∧B≤b∧w.heap[b]?=some (.mapIter mo n seen.toArray last)∧mitB C m mo
  | .dead=>True
structure Inv (B:Base) (C:Cx) (h:Heap) (w:World):Prop where
  im:∀ b o u,C.im b o=some u→w.cell? ⟨b,o,none⟩=some u
  one:∀ b o u,C.im b o=some u→u.oneCell'=true
  ok:∀ (l:Nat) blk,h[l]?=some blk→BlkOK B C w l blk
  inj:∀ (l l':Nat) blk blk' b,h[l]?=some blk→h[l']?=some blk'→blockOf C l blk=some b→blockOf C l' blk'=some b→l=l'
  fr:∀ l,h.length≤l→C.bl l=none∧∀ v,C.ar l v=none
  fv:∀ (l:Nat) ne tg sz ver rows wr,h[l]?=some (.arrX ne tg sz ver rows wr)→∀ v,ver<v→C.ar l v=none
  hB:B≤w.heap.size
  low:∀ b o u,b<B.n→C.im b o=some u→B.lo b o=some u
  gl:∀ g r,B.gv g=some r→Rel (Cx.pure C.im) (.fptr r 0) (.pointer (some ⟨g,0,none⟩))
  tb:TbOK B.gv B.n w
  rcl:∀ l x,B.rc l=some x→l<h.length
  cle:B.cx.Le C
theorem cell_lt{w:World}{b o:Nat}{u:Value}(h:w.cell? ⟨b,o,none⟩=some u):b<w.heap.size:=World.block_lt_of_cell? w _ h
theorem heap_lt{w:World}{b:Nat}{o:Obj}(h:w.heap[b]?=some o):b<w.heap.size:=(Array.getElem?_eq_some_iff.1 h).1
theorem cell_of_heap{w:World}{b:Nat}{cur:Array Value}{e:TypeId}{f:Nat×Nat}(h:w.heap[b]?=some (.cells cur e f))(o:Nat):w.cell? ⟨b,o,none⟩=cur[o]?:=by
  simp [World.cell?,h]
theorem Inv.grow{B:Base}{C:Cx}{h:Heap}{w w':World}(hi:Inv B C h w)(hb:Below w.heap.size w w'):Inv B C h w':=by
  have cell:∀ b o u,w.cell? ⟨b,o,none⟩=some u→w'.cell? ⟨b,o,none⟩=some u:=fun b o u hc=>(hb.cell (p:=⟨b,o,none⟩) (cell_lt hc)).trans hc
  have heap:∀ b o,w.heap[b]?=some o→w'.heap[b]?=some o:=fun b o hc=>(hb.block b (heap_lt hc)).trans hc
  refine ⟨fun b o u x=>cell b o u (hi.im b o u x),hi.one,fun l blk x=>?_,hi.inj,hi.fr,hi.fv,Nat.le_trans hi.hB hb.size,hi.low,hi.gl,hi.tb.mono (fun k _ hk=>hb.block k hk),hi.rcl,hi.cle⟩
  have k:=hi.ok l blk x;cases blk with
  | cellsT tg vs=>
    obtain ⟨b,cur,e,h1,h2,h3,h4⟩:=k;exact ⟨b,cur,e,h1,h2,heap _ _ h3,h4⟩
  | arrX ne tg sz ver rows wr=>
    rcases k with k | ⟨r,cur,h1,h2,h3,h4,h5,h6,h7⟩
    · exact .inl k
    · exact .inr ⟨r,cur,h1,h2,h3,h4,h5,heap _ _ h6,h7⟩
  | map es=>
    obtain ⟨b,ms,ck,h1,h2,h3,h4⟩:=k;exact ⟨b,ms,ck,h1,h2,heap _ _ h3,h4⟩
  | iter s pos=>
    obtain ⟨b,h1,h2,h3⟩:=k;exact ⟨b,h1,h2,heap _ _ h3⟩
  | lp busy x=>
    obtain ⟨b,r,h1,h2,h3,h4⟩:=k;exact ⟨b,r,h1,h2,h3,heap _ _ h4⟩
  | mit m n seen last=>
    obtain ⟨b,mo,h1,h2,h3,h4⟩:=k;exact ⟨b,mo,h1,h2,heap _ _ h3,h4⟩
  | dead=>trivial
theorem flatten_get{n:Nat}:∀ (rows:List (List AV)),(∀ row∈rows,row.length=n)→∀ (i j:Nat) row c,rows[i]?=some row→row[j]?=some c→rows.flatten[i*n+j]?=some c
  | [],_,i,j,row,c,h1,_=>by simp at h1
  | r::rs,hall,0,j,row,c,h1,h2=>by
    simp at h1; subst h1;rw [List.flatten_cons,List.getElem?_append_left (by simpa using (List.getElem?_eq_some_iff.1 h2).1)];simpa using h2
  | r::rs,hall,i+1,j,row,c,h1,h2=>by
    have hr:r.length=n:=hall r (by simp);have ih:=flatten_get rs (fun x hx=>hall x (by simp [hx])) i j row c (by simpa using h1) h2;rw [List.flatten_cons,List.getElem?_append_right (by rw [hr,Nat.add_mul]; omega),hr];rw [show (i+1)*n+j-n=i*n+j by rw [Nat.add_mul]; omega];exact ih
theorem flatten_len{n:Nat}:∀ (rows:List (List AV)),(∀ row∈rows,row.length=n)→rows.flatten.length=rows.length*n
  | [],_=>by simp
  | r::rs,hall=>by
    rw [List.flatten_cons,List.length_append,hall r (by simp),flatten_len rs (fun x hx=>hall x (by simp [hx])),List.length_cons,Nat.add_mul]; omega
theorem mkVal_agg{size:Nat}{cs:List AV}{v:AV}(h:mkVal true size cs=some v):cs.length=size∧v=.agg cs:=by
  simp only [mkVal,if_true]at h;split at h
  · injection h with h; exact ⟨‹_›,h.symm⟩
  · cases h
theorem mkVal_one{size:Nat}{cs:List AV}{v:AV}(h:mkVal false size cs=some v):cs=[v]:=by
  simp only [mkVal,Bool.false_eq_true,if_false]at h;split at h
  · injection h with h; subst h; rfl
  · cases h
def mkC(agg:Bool)(us:List Value):Value:=if agg then .agg us.toArray else us.headD undef
theorem mkVal_rel{C:Cx}{agg:Bool}{size:Nat}{cs:List AV}{us:List Value}{v:AV}(hm:mkVal agg size cs=some v)(hr:RelL C cs us):Rel C v (mkC agg us):=by
  cases agg with
  | true=>
    obtain ⟨h1,rfl⟩:=mkVal_agg hm;exact .agg cs us.toArray (by simpa using hr.1) (fun i c u hc hu=>hr.2 i c u hc (by simpa using hu))
  | false=>
    have:=mkVal_one hm; subst this;obtain ⟨u,us',rfl,h1,h2⟩:=hr.inv_cons;exact h1
theorem run_isAgg{P:Program}{t:TypeId}{agg:Bool}(h:(P.underlying t).map (fun | .struct _=>true | .array _ _=>true | _=>false)=some agg)(w:World):(isAgg t).run P w=.ok agg w:=by
  cases hu:P.underlying t with
  | none=>simp [hu]at h
  | some d=>cases d <;> simp [hu]at h <;> subst h <;> simp [isAgg,run_underlying hu]
def tagg(P:Program)(t:TypeId):Option Bool:=(P.underlying t).map (fun | .struct _=>true | .array _ _=>true | _=>false)
def tsize(P:Program)(t:TypeId):Option Nat:=(P.info? t).map (·.size)
theorem run_sizeOf'{P:Program}{t:TypeId}{n:Nat}(h:tsize P t=some n)(w:World):(sizeOf t).run P w=.ok n w:=by
  unfold tsize at h;cases hi:P.info? t with
  | none=>simp [hi]at h
  | some i=>simp [hi]at h; subst h; simp [sizeOf,typeInfo,hi]
theorem run_loadVar{P:Program}{t:TypeId}{agg:Bool}{size:Nat}(ha:tagg P t=some agg)(hs:tsize P t=some size)(a:Addr)(us:List Value)(hl:if agg then us.length=size else us.length=1)(w:World)
    (hc:∀ (j:Nat) u,us[j]?=some u→w.cell? (a.add j)=some u):(loadVar t a).run P w=.ok (mkC agg us) w:=by
  have h1:=run_isAgg ha w;cases agg with
  | true=>
    simp only [if_true]at hl;have:=run_loadCells_list (P:=P) w a us hc;rw [hl]at this;simp [loadVar,h1,run_sizeOf' hs,this,mkC]
  | false=>
    simp only [Bool.false_eq_true,if_false]at hl;match us,hl with
    | [u],_=>
      have h0:=hc 0 u rfl;simp [Addr.add]at h0;simp [loadVar,h1,h0,mkC]
theorem cut_rel{C:Cx}{cs:List AV}{us:List Value}(h:RelL C cs us)(off size:Nat):RelL C (cut cs off size) ((us.drop off).take size):=(h.drop off).take size
theorem mkVal_len{agg:Bool}{size:Nat}{cs:List AV}{v:AV}(h:mkVal agg size cs=some v):if agg then cs.length=size else cs.length=1:=by
  cases agg with
  | true=>simpa using (mkVal_agg h).1
  | false=>have:=mkVal_one h; subst this; simp
theorem cut_get{us:List Value}{off size j:Nat}{u:Value}(h:((us.drop off).take size)[j]?=some u):us[off+j]?=some u:=by
  rw [List.getElem?_take]at h;split at h
  · rwa [List.getElem?_drop]at h
  · cases h
theorem row_rel{C:Cx}{row:List AV}{us:Nat→Value}(hr:∀ (j:Nat) c,row[j]?=some c→Rel C c (us j)):RelL C row ((List.range row.length).map us):=by
  refine ⟨by simp,fun i c v hc hv=>?_⟩
  rw [List.getElem?_map,List.getElem?_range (List.getElem?_eq_some_iff.1 hc).1]at hv;simp at hv; subst hv;exact hr i c hc
theorem loadAV_sound{P:Program}{B:Base}{C:Cx}{h:Heap}{w:World}(hi:Inv B C h w){t:TypeId}{agg:Bool}{size:Nat}(ha:tagg P t=some agg)(hs:tsize P t=some size)
    {a v:AV} {x:Value} (hr:Rel C a x) (hl:loadAV size agg h a=some v) :
    ∃ u,Rel C v u∧∀ w',Below w.heap.size w w'→(Instr.loadAt t x).run P w'=.ok u w':=by
  cases a with
  | ptr l off=>
    simp only [loadAV]at hl;split at hl
    · rename_i vs hx
      cases hr with
      | ptr _ _ b hb=>
        obtain ⟨b',cur,e,h1,h2,h3,h4,h5,_⟩:=hi.ok l _ hx;rw [hb]at h1; injection h1 with h1; subst h1
        have hrel:=cut_rel h5 off size;refine ⟨_,mkVal_rel hl hrel,fun w' hw'=>?_⟩
        have hlen:=mkVal_len hl;rw [hrel.1]at hlen;have:=run_loadVar ha hs ⟨b,off,none⟩ _ hlen w' (fun j u hj=>by
          rw [Addr.add_lit,cell_of_heap ((hw'.block b (heap_lt h3)).trans h3)];simpa using cut_get hj)
        simpa [Instr.loadAt,Instr.sureAddr] using this
    · cases hl
  | fptr row off=>
    simp only [loadAV]at hl;cases hr with
    | fptr _ _ b o us hc hr=>
      have hrel:=cut_rel ((row_rel hr).mono C.frozen_le) off size;refine ⟨_,mkVal_rel hl hrel,fun w' hw'=>?_⟩
      have hlen:=mkVal_len hl;rw [hrel.1]at hlen;have:=run_loadVar ha hs ⟨b,o+off,none⟩ _ hlen w' (fun j u hj=>by
        have hg:=cut_get hj;have hlt:off+j<row.length:=by
          have:=(List.getElem?_eq_some_iff.1 hg).1; simpa using this
        rw [List.getElem?_map,List.getElem?_range hlt]at hg;simp at hg; subst hg;rw [Addr.add_lit];have hcell:=hi.im _ _ _ (hc (off+j) row[off+j] (by simp [hlt]));rw [Nat.add_assoc];exact (hw'.cell (p:=⟨b,o+(off+j),none⟩) (cell_lt hcell)).trans hcell)
      simpa [Instr.loadAt,Instr.sureAddr] using this
  | eptr l ver i off=>
    simp only [loadAV]at hl;split at hl
    · rename_i ne tg sz ver' rows wr hx
      split at hl
      · rename_i hv; subst hv
        split at hl
        · rename_i row hrow
          cases hr with
          | eptr _ _ _ _ r hb=>
            have hok:=hi.ok l _ hx;rcases hok with ⟨h1,_⟩ | ⟨r',cur,h1,h2,h3,h4,h5,h6,h7,h8,_⟩
            · rw [hb]at h1; cases h1
            · rw [hb]at h1; injection h1 with h1; injection h1 with h1; subst h1
              have hi':i<rows.length:=(List.getElem?_eq_some_iff.1 hrow).1;have hrl:row.length=r.size:=h5 row (List.mem_of_getElem? hrow);have hfl:=flatten_len rows h5;have hrowrel:RelL (C.at ne) row ((cur.toList.drop (i*r.size)).take r.size):=by
                refine ⟨?_,fun j c u hc hu=>?_⟩
                · have:=h8.1; simp [hfl]at this ⊢
                  have hm:(i+1)*r.size≤rows.length*r.size:=Nat.mul_le_mul_right _ hi';rw [Nat.add_mul]at hm;omega
                · have hj:j<r.size:=by rw [← hrl]; exact (List.getElem?_eq_some_iff.1 hc).1
                  have hm:(i+1)*r.size≤rows.length*r.size:=Nat.mul_le_mul_right _ hi';rw [Nat.add_mul]at hm;refine h8.2 (i*r.size+j) c u (flatten_get rows h5 i j row c hrow hc) ?_
                  rw [List.getElem?_take,if_pos (by omega)];exact cut_get hu
              have hrel:=cut_rel (hrowrel.mono (C.at_all ne)) off size;refine ⟨_,mkVal_rel hl hrel,fun w' hw'=>?_⟩
              have hlen:=mkVal_len hl;rw [hrel.1]at hlen;have:=run_loadVar ha hs ⟨r.block,i*r.size+off,none⟩ _ hlen w' (fun j u hj=>by
                rw [Addr.add_lit,cell_of_heap ((hw'.block r.block (heap_lt h6)).trans h6)];have:=cut_get (cut_get hj);simpa [Nat.add_assoc] using this)
              simpa [Instr.loadAt,Instr.sureAddr] using this
        · cases hl
      · cases hl
    · cases hl
  | _=>simp [loadAV]at hl
end Go.Proofs.YtpefhfiehfkocaaGreatDoor
namespace Go.Proofs.YtpefhfiehfkocaaGreatDoor
open Go.RowKit
def ofCell:Value→Option AV
  | .bool b=>some (.bool b)
  | .int k n=>some (.int k n)
  | .string s=>some (.str s.data.toList)
  | .pointer none=>some .nilp
  | .slice none 0 0=>some .nils
  | .map none=>some .nilm
  | .nilFunc=>some .nilf
  | .nilIface=>some .nili
  | _=>none
def ofCells:List Value→Option (List AV)
  | []=>some []
  | v::vs=>match ofCell v,ofCells vs with
    | some a,some as=>some (a::as)
    | _,_=>none
def ofValue:Value→Option AV
  | .agg cs=>(ofCells cs.toList).map .agg
  | v=>ofCell v
theorem ofCell_rel{C:Cx}{v:Value}{a:AV}(h:ofCell v=some a):Rel C a v:=by
  unfold ofCell at h;split at h <;> (first | cases h | skip) <;> constructor
theorem ofCells_rel{C:Cx}:∀ {vs:List Value} {as:List AV},ofCells vs=some as→RelL C as vs
  | [],as,h=>by simp [ofCells]at h; subst h; exact .nil
  | v::vs,as,h=>by
    simp only [ofCells]at h;split at h
    · rename_i a as' h1 h2
      injection h with h; subst h
      exact .cons (ofCell_rel h1) (ofCells_rel h2)
    · cases h
theorem ofValue_rel{C:Cx}{v:Value}{a:AV}(h:ofValue v=some a):Rel C a v:=by
  unfold ofValue at h;split at h
  · rename_i cs
    cases h2:ofCells cs.toList with
    | none=>simp [h2]at h
    | some as=>
      simp [h2]at h; subst h;have:=ofCells_rel (C:=C) h2;exact .agg as cs (by simpa using this.1) (fun i c u hc hu=>this.2 i c u hc (by simpa using hu))
  · exact ofCell_rel h
def tzero(P:Program)(t:TypeId):Option (List AV):=((P.info? t).bind (·.zero)).bind fun z=>ofCells z.cells.toList
def tzeroV(P:Program)(t:TypeId):Option AV:=((P.info? t).bind (·.zero)).bind ofValue
def flatFields(P:Program)(rec:TypeId→Option (List EK)):List Field→Nat→Option (List EK)
  | [],_=>some []
  | f::fs,off=>if f.name = "_" ∨ f.offset≠off then none else match rec f.type with
    | some ks=>if tsize P f.type=some ks.length then (flatFields P rec fs (off+ks.length)).map (ks++·)else none
    | none=>none
def flatEq(P:Program):Nat→TypeId→Option (List EK)
  | 0,_=>none
  | d+1,t=>match P.underlying t with
    | some .bool=>some [.b]
    | some (.int _)=>some [.i]
    | some .string=>some [.s]
    | some (.struct fs)=>if P.stoodInHeld t then none else flatFields P (flatEq P d) fs.toList 0
    | _=>none
def compAt(gv:Gv):Operand→Option At
  | .tmp t=>some (.t t)
  | .const v=>(ofValue v).map .c
  | .global g=>(gv g).map fun r=>.c (.fptr r 0)
  | .func f=>some (.c (.fn f []))
def compAts(gv:Gv):List Operand→Option (List At)
  | []=>some []
  | x::xs=>match compAt gv x,compAts gv xs with
    | some a,some as=>some (a::as)
    | _,_=>none
def placeFn(P:Program)(t:TypeId):Option (Nat→Option (Nat×Nat)):=
  match P.underlying t with
  | some (.array _ e)=>(P.info? e).map fun ie=>fun i=>some (i*ie.size,ie.size)
  | some (.struct fields)=>(fields.toList.mapM (fun f=>(P.info? f.type).map fun i=>(f.offset,i.size))).map fun places=>fun i=>places.toArray[i]?
  | _=>none
def placesOf(pl:Nat→Option (Nat×Nat)):List (Nat×Operand)→Option (List (Nat×Nat))
  | []=>some []
  | (i,_)::r=>match pl i,placesOf pl r with
    | some q,some qs=>some (q::qs)
    | _,_=>none
def compPure(P:Program):Op→Option (AO×List Operand)
  | .move x=>some (.mv,[x])
  | .assign x=>some (.mv,[x])
  | .pick c a b=>some (.pick,[c,a,b])
  | .binOp op t x y _=>match P.underlying t with
    | some .bool=>(match op with
      | .eql=>some (.eqB false,[x,y])
      | .neq=>some (.eqB true,[x,y])
      | _=>none)
    | some (.int _)=>some (.bin op,[x,y])
    | some .string=>some (.bin op,[x,y])
    | some (.struct _)=>if P.eqGuardType P.depth t=false then (match flatEq P 100 t with
      | some ks=>if tsize P t=some ks.length then (match op with
        | .eql=>some (.eqA false ks,[x,y])
        | .neq=>some (.eqA true ks,[x,y])
        | _=>none)else none
      | none=>none)else none
    | _=>none
  | .unOp op _ x=>some (.un op,[x])
  | .convert s d x=>match P.underlying s,P.underlying d with
    | some (.int _),some (.int k)=>some (.conv k,[x])
    | some .string,some .string=>some (.strid,[x])
    | _,_=>none
  | .fieldAddr s x f=>match P.underlying s with
    | some (.struct fs)=>(match fs[f]? with
      | some fd=>(match tsize P fd.type with
        | some n=>if n=0 then none else some (.fadr fd.offset,[x])
        | none=>none)
      | none=>none)
    | _=>none
  | .field s x f=>match P.underlying s with
    | some (.struct fs)=>(match fs[f]? with
      | some fd=>(match tsize P fd.type,tagg P fd.type with
        | some n,some a=>some (.fld fd.offset n a,[x])
        | _,_=>none)
      | none=>none)
    | _=>none
  | .indexAddr t x i=>match P.underlying t with
    | some (.slice e)=>(match tsize P e with
      | some n=>some (.iadr n,[x,i])
      | none=>none)
    | some (.array len e)=>(match tsize P e with
      | some n=>some (.aadr len n,[x,i])
      | none=>none)
    | _=>none
  | .index t x i=>match P.underlying t with
    | some .string=>some (.istr,[x,i])
    | some (.array len e)=>(match tsize P e,tagg P e with
      | some n,some a=>some (.iarr len n a,[x,i])
      | _,_=>none)
    | _=>none
  | .load t a=>match tsize P t,tagg P t with
    | some n,some g=>some (.ld n g,[a])
    | _,_=>none
  | .extract x i=>some (.ext i,[x])
  | .lookup t m k ok=>match P.underlying t with
    | some (.map kt e)=>(match P.underlying kt,tzeroV P e with
      | some .string,some z=>some (.look .s ok z,[m,k])
      | some (.int _),some z=>some (.look .i ok z,[m,k])
      | some .bool,some z=>some (.look .b ok z,[m,k])
      | _,_=>none)
    | _=>none
  | .makeFunc (.func f) first caps=>if first.size=0 then some (.mkfn f,caps.toList)else if caps.size=0 then (match first.toList with
    | [x]=>some (.mkmth f,[x])
    | _=>none)else none
  | .makeInterface t x=>match P.underlying t with
    | some (.interface _)=>none
    | some _=>some (.mkif t,[x])
    | none=>none
  | .slice t x lo hi mx=>match P.underlying t with
    | some .string=>some (.slc none lo.isSome hi.isSome mx.isSome,x::(lo.toList++hi.toList++mx.toList))
    | some (.slice e)=>(match tsize P e with
      | some n=>some (.slc (some n) lo.isSome hi.isSome mx.isSome,x::(lo.toList++hi.toList++mx.toList))
      | none=>none)
    | _=>none
  | .call { callee:=.builtin .len,args,argTypes }=>match argTypes.toList,args.toList with
    | [t],[x]=>(match P.underlying t with
      | some .string=>some (.len 0,[x])
      | some (.slice _)=>some (.len 1,[x])
      | some (.map _ _)=>some (.len 2,[x])
      | _=>none)
    | _,_=>none
  | .call { callee:=.builtin .min,args,.. }=>match args.toList with
    | [x,y]=>some (.min,[x,y])
    | _=>none
  | .call { callee:=.builtin .max,args,.. }=>match args.toList with
    | [x,y]=>some (.max,[x,y])
    | _=>none
  | .build t parts=>match tzero P t,placeFn P t with
    | some z,some pl=>(match placesOf pl parts.toList with
      | some qs=>some (.bld z qs,parts.toList.map (·.2))
      | none=>none)
    | _,_=>none
  | .nilCheck x=>some (.nilck,[x])
  | _=>none
section
variable {P:Program} {B:Base} {C:Cx} {h:Heap} {w:World}
theorem run_eqGuard_scalar(op:BinOp)(t:TypeId)(x y:Operand)(a b:Value)(ha:a.oneCell'=true∧a≠.nilIface)(w:World):(eqGuard op t x y a b).run P w=.ok () w:=by
  cases op <;> cases a <;> simp_all [eqGuard,Value.oneCell']
theorem str_inv{s:List UInt8}{x:Value}(h:Rel C (.str s) x):x=.string ⟨s.toArray⟩:=by cases h; rfl
theorem int_inv{k:IntKind}{n:Int}{x:Value}(h:Rel C (.int k n) x):x=.int k n:=by cases h; rfl
theorem bool_inv{b:Bool}{x:Value}(h:Rel C (.bool b) x):x=.bool b:=by cases h; rfl
theorem agg_inv{cs:List AV}{x:Value}(h:Rel C (.agg cs) x):∃ vs:Array Value,x=.agg vs∧RelL C cs vs.toList:=by
  cases h with
  | agg _ vs hl h=>exact ⟨vs,rfl,by simpa using hl,fun i c u hc hu=>h i c u hc (by simpa using hu)⟩
theorem toList_ba(s:List UInt8):(ByteArray.mk s.toArray).toList=s:=by simp
theorem intBin_sound{op:BinOp}{k:IntKind}{a b:Int}{v:AV}(hop:op≠.shl∧op≠.shr)(h:intBin op k a b=some v)(t:TypeId) :
    ∃ u,Rel C v u∧∀ w,(binOp op t (.int k a) (.int k b)).run P w=.ok u w:=by
  cases op <;> simp only [intBin]at h <;> (first | cases h | skip) <;>
    first
    | exact ⟨_,.int _ _,fun w=>rfl⟩
    | (refine ⟨_,.bool _,fun w=>?_⟩; simp [binOp,Op.intCmp]; done)
    | (refine ⟨_,.int _ _,fun w=>?_⟩; simp [binOp,Op.intArith,Op.intBits]; done)
    | (split at h
       · cases h
       · injection h with h; subst h; refine ⟨_,.int _ _,fun w=>?_⟩; simp [binOp,Op.intDiv, *])
    | (exact absurd rfl hop.1)
    | (exact absurd rfl hop.2)
theorem strBin_sound{op:BinOp}{a b:List UInt8}{v:AV}(h:strBin op a b=some v)(t:TypeId) :
    ∃ u,Rel C v u∧∀ w,(binOp op t (.string ⟨a.toArray⟩) (.string ⟨b.toArray⟩)).run P w=.ok u w:=by
  have e1:∀ x y:ByteArray,(BinOp.add=.add):=fun _ _=>rfl
  cases op <;> simp only [strBin]at h <;> (first | cases h | skip)
  case add=>
    split at h
    · rename_i hle
      injection h with h; subst h
      refine ⟨_,.str _,fun w=>?_⟩
      have hle':¬ (9223372036854775807:Int)<((a.length:Int)+(b.length:Int)):=by unfold strMax at hle; omega
      simp [binOp,Op.stringOp,ByteArray.size,IntKind.max,IntKind.signed,IntKind.bits,hle'];exact ByteArray.ext (by simp)
    · cases h
  all_goals
    refine ⟨_,.bool _,fun w=>?_⟩
    simp [binOp,Op.stringOp]
theorem binAV_sound{op:BinOp}{a b v:AV}{x y:Value}(hx:Rel C a x)(hy:Rel C b y)(h:binAV op a b=some v)(t:TypeId)(ox oy:Operand) :
    ∃ u,Rel C v u∧∀ w,(do eqGuard op t ox oy x y; binOp op t x y:Sem Value).run P w=.ok u w:=by
  have fin:∀ (hs:x.oneCell'=true∧x≠.nilIface),(∃ u,Rel C v u∧∀ w,(binOp op t x y).run P w=.ok u w)→∃ u,Rel C v u∧∀ w,(do eqGuard op t ox oy x y; binOp op t x y:Sem Value).run P w=.ok u w:=by
    rintro hs ⟨u,h1,h2⟩
    exact ⟨u,h1,fun w=>by simp [run_eqGuard_scalar op t ox oy x y hs w,h2 w]⟩
  unfold binAV at h;split at h
  · rename_i k a' k' b'
    have:=int_inv hx; subst this;have:=int_inv hy; subst this;refine fin ⟨rfl,by simp⟩ ?_
    split at h
    · rename_i hop
      split at h
      · cases h
      · rename_i hb
        injection h with h; subst h
        refine ⟨_,.int _ _,fun w=>?_⟩
        rcases hop with rfl | rfl <;> simp [binOp,Op.shift,hb]
    · rename_i hop
      split at h
      · rename_i hk; subst hk
        exact intBin_sound ⟨fun e=>hop (.inl e),fun e=>hop (.inr e)⟩ h t
      · cases h
  · rename_i a' b'
    have:=str_inv hx; subst this;have:=str_inv hy; subst this;exact fin ⟨rfl,by simp⟩ (strBin_sound h t)
  · cases h
theorem eqCells_append:∀ (ks ls:List EK) (as bs cs ds:List AV) (b:Bool),as.length=ks.length→bs.length=ks.length→eqCells (ks++ls) (as++cs) (bs++ds)=some b→
    ∃ b1,eqCells ks as bs=some b1∧(b1=false→b=false)∧(b1=true→eqCells ls cs ds=some b)
  | [],ls,[],[],cs,ds,b,_,_,h=>⟨true,rfl,by simp,fun _=>h⟩
  | [],_,_::_,_,_,_,_,hl,_,_=>by simp at hl
  | [],_,_,_::_,_,_,_,_,hl,_=>by simp at hl
  | _::_,_,[],_,_,_,_,hl,_,_=>by simp at hl
  | _::_,_,_,[],_,_,_,_,hl,_=>by simp at hl
  | k::ks,ls,a::as,a'::bs,cs,ds,b,hl,hl',h=>by
    have ih:=eqCells_append ks ls as bs cs ds b (by simpa using hl) (by simpa using hl');simp only [List.cons_append]at h;cases k <;> cases a <;> cases a' <;> simp only [eqCells]at h ⊢ <;> (first | cases h | skip)
    case i.int.int k n k' n'=>
      split at h
      · rename_i hk
        simp only [if_pos hk];split at h
        · rename_i hn; simp only [if_pos hn]; exact ih h
        · rename_i hn; simp only [if_neg hn]; injection h with h; subst h; exact ⟨false,rfl,fun _=>rfl,by simp⟩
      · cases h
    all_goals
      split at h
      · rename_i hn; simp only [if_pos hn]; exact ih h
      · rename_i hn; simp only [if_neg hn]; injection h with h; subst h; exact ⟨false,rfl,fun _=>rfl,by simp⟩
theorem eqCells_one{k:EK}{a c:AV}{b:Bool}(h:eqCells [k] [a] [c]=some b) :
    (∃ q m n,k=.i∧a=.int q m∧c=.int q n∧b=(m == n))∨(∃ m n,k=.s∧a=.str m∧c=.str n∧b=(m == n))∨(∃ m n,k=.b∧a=.bool m∧c=.bool n∧b=(m == n)):=by
  cases k <;> cases a <;> cases c <;> simp only [eqCells]at h <;> (first | cases h | skip)
  case i.int.int k n k' n'=>
    split at h
    · rename_i hk; subst hk
      refine .inl ⟨_,_,_,rfl,rfl,rfl,?_⟩
      split at h <;> injection h with h <;> subst h <;> simp [*]
    · cases h
  case s.str.str x y=>
    refine .inr (.inl ⟨_,_,rfl,rfl,rfl,?_⟩)
    split at h <;> injection h with h <;> subst h <;> simp [*]
  case b.bool.bool x y=>
    refine .inr (.inr ⟨_,_,rfl,rfl,rfl,?_⟩)
    split at h <;> injection h with h <;> subst h <;> simp [*]
theorem extract_list(xs:Array Value)(a b:Nat):(xs.extract a b).toList=(xs.toList.drop a).take (b-a):=by
  simp [List.take_drop]
def EqAt(P:Program)(C:Cx)(d:Nat):Prop:=∀ (t:TypeId) (ks:List EK) (off:Nat) (xs ys:Array Value) (as bs:List AV) (b:Bool),flatEq P d t=some ks→tsize P t=some ks.length→
  RelL C as ((xs.toList.drop off).take ks.length)→RelL C bs ((ys.toList.drop off).take ks.length)→as.length=ks.length→bs.length=ks.length→eqCells ks as bs=some b→
  ∀ k w,(do let a ← part t xs off; let c ← part t ys off; Op.equalIn (k+d) t a c:Sem Bool).run P w=.ok b w
def EqFields(P:Program)(C:Cx)(d:Nat):Prop:=∀ (fs:List Field) (off:Nat) (ks:List EK) (xs ys:Array Value) (as bs:List AV) (b:Bool),flatFields P (flatEq P d) fs off=some ks→
  RelL C as ((xs.toList.drop off).take ks.length)→RelL C bs ((ys.toList.drop off).take ks.length)→as.length=ks.length→bs.length=ks.length→eqCells ks as bs=some b→
  ∀ k w,(Op.eqFields (k+d) xs ys fs).run P w=.ok b w
theorem take_take_drop(l:List Value)(off m n:Nat):((l.drop off).take (m+n)).take m=(l.drop off).take m:=by rw [List.take_take]; congr 1; omega
theorem drop_take_drop(l:List Value)(off m n:Nat):((l.drop off).take (m+n)).drop m=(l.drop (off+m)).take n:=by
  rw [List.drop_take,List.drop_drop]; congr 1; omega
theorem eqFields_of{d:Nat}(h:EqAt P C d):EqFields P C d:=by
  intro fs;induction fs with
  | nil=>
    intro off ks xs ys as bs b hf hx hy hla hlb hb k w;simp [flatFields]at hf; subst hf;simp at hla hlb; subst hla hlb;simp [eqCells]at hb; subst hb;simp [Op.eqFields]
  | cons f fs ih=>
    intro off ks xs ys as bs b hf hx hy hla hlb hb k w;simp only [flatFields]at hf;split at hf
    · cases hf
    · rename_i hn
      simp only [not_or,Decidable.not_not]at hn;split at hf
      · rename_i k1 hk1
        split at hf
        · rename_i hs
          cases hr:flatFields P (flatEq P d) fs (off+k1.length)with
          | none=>simp [hr]at hf
          | some k2=>
            simp [hr]at hf; subst hf;have la:as=as.take k1.length++as.drop k1.length:=(List.take_append_drop _ _).symm;have lb:bs=bs.take k1.length++bs.drop k1.length:=(List.take_append_drop _ _).symm;rw [la,lb]at hb;simp only [List.length_append]at hla hlb hx hy;obtain ⟨b1,e1,e2,e3⟩:=eqCells_append k1 k2 _ _ _ _ b (by simp; omega) (by simp; omega) hb;have h1:=h f.type k1 off xs ys (as.take k1.length) (bs.take k1.length) b1 hk1 hs (by rw [← take_take_drop _ off k1.length k2.length]; exact hx.take _) (by rw [← take_take_drop _ off k1.length k2.length]; exact hy.take _) (by simp; omega) (by simp; omega) e1 k w;have hoff:=hn.2;simp only [Sem.run_bind]at h1;simp only [Op.eqFields,ne_eq,hn.1,not_false_eq_true,if_true,hoff,Sem.run_bind];generalize (part f.type xs off).run P w=r1 at h1 ⊢;cases r1 with
            | halt _ _=>simp [Result.andThen]at h1
            | ok a w1=>
              simp only [Result.andThen_ok]at h1 ⊢;generalize (part f.type ys off).run P w1=r2 at h1 ⊢;cases r2 with
              | halt _ _=>simp [Result.andThen]at h1
              | ok c w2=>
                simp only [Result.andThen_ok]at h1 ⊢;rw [h1];cases b1 with
                | false=>simp [e2 rfl]
                | true=>
                  simp only [Result.andThen_ok,Bool.not_true,Bool.false_eq_true,if_false];exact ih (off+k1.length) k2 xs ys _ _ b hr (by rw [← drop_take_drop _ off k1.length k2.length]; exact hx.drop _) (by rw [← drop_take_drop _ off k1.length k2.length]; exact hy.drop _) (by simp; omega) (by simp; omega) (e3 rfl) k w
        · cases hf
      · cases hf
theorem eqAt:∀ d,EqAt P C d
  | 0=>fun t ks off xs ys as bs b h=>by simp [flatEq]at h
  | d+1=>by
    intro t ks off xs ys as bs b h hs hx hy hla hlb hb k w;have atom:∀ (hn:ks.length=1) (hagg:tagg P t=some false) (heq:∀ (a c:AV) (x y:Value),Rel C a x→Rel C c y→eqCells ks [a] [c]=some b→(Op.equalIn (k+d+1) t x y).run P w=.ok b w),
        (do let a ← part t xs off; let c ← part t ys off; Op.equalIn (k+(d+1)) t a c:Sem Bool).run P w=.ok b w:=by
      intro hn hagg heq;rw [hn]at hla hlb hx hy;match as,bs,hla,hlb with
      | [a],[c],_,_=>
        obtain ⟨x,us,e1,r1,_⟩:=hx.inv_cons;obtain ⟨y,vs,e2,r2,_⟩:=hy.inv_cons;have g1:xs[off]?=some x:=by
          have:=congrArg (fun l:List Value=>l[0]?) e1; simpa [List.getElem?_take,List.getElem?_drop] using this
        have g2:ys[off]?=some y:=by
          have:=congrArg (fun l:List Value=>l[0]?) e2; simpa [List.getElem?_take,List.getElem?_drop] using this
        simp [part,run_isAgg hagg,g1,g2];exact heq a c x y r1 r2 hb
    simp only [flatEq]at h;cases hu:P.underlying t with
    | none=>simp [hu]at h
    | some dsc=>
      cases dsc <;> simp only [hu]at h <;> (first | cases h | skip)
      case some.bool.refl=>
        refine atom rfl (by simp [tagg,hu]) fun a c x y hx hy he=>?_
        rcases eqCells_one he with ⟨q,m,n,e,_⟩ | ⟨m,n,e,_⟩ | ⟨m,n,_,rfl,rfl,rfl⟩
        · cases e
        · cases e
        · rw [bool_inv hx,bool_inv hy,run_equalIn_bool' w (k+d) t _ _ hu]
      case some.int.refl q=>
        refine atom rfl (by simp [tagg,hu]) fun a c x y hx hy he=>?_
        rcases eqCells_one he with ⟨q,m,n,_,rfl,rfl,rfl⟩ | ⟨m,n,e,_⟩ | ⟨m,n,e,_⟩
        · rw [int_inv hx,int_inv hy,run_equalIn_int w (k+d) t _ _ _ _ hu]
        · cases e
        · cases e
      case some.string.refl=>
        refine atom rfl (by simp [tagg,hu]) fun a c x y hx hy he=>?_
        rcases eqCells_one he with ⟨q,m,n,e,_⟩ | ⟨m,n,_,rfl,rfl,rfl⟩ | ⟨m,n,e,_⟩
        · cases e
        · rw [str_inv hx,str_inv hy,run_equalIn_string w (k+d) t _ _ hu,toList_ba,toList_ba]
        · cases e
      case some.struct fs=>
        split at h
        · cases h
        · rename_i hst
          have hagg:tagg P t=some true:=by simp [tagg,hu]
          have hfo:P.fieldsOf t=fs:=by simp [Program.fieldsOf,hu]
          have hu':P.underlying t=some (.struct (P.fieldsOf t)):=by rw [hfo]; exact hu
          have:=run_equalIn_struct (P:=P) w (k+d) t (xs.extract off (off+ks.length)) (ys.extract off (off+ks.length)) hu' (by simpa using hst);rw [hfo]at this;simp only [part,Sem.run_bind,run_isAgg hagg,Result.andThen_ok,if_true,run_sizeOf' hs,Sem.run_pure];rw [show k+(d+1)=k+d+1 by omega,this];refine eqFields_of (eqAt d) fs.toList 0 ks _ _ as bs b h ?_ ?_ hla hlb hb k w
          · rw [extract_list,List.drop_zero,List.take_take]
            rw [Nat.add_sub_cancel_left,Nat.min_self];exact hx
          · rw [extract_list,List.drop_zero,List.take_take]
            rw [Nat.add_sub_cancel_left,Nat.min_self];exact hy
end
end Go.Proofs.YtpefhfiehfkocaaGreatDoor
