/- The small language that a function's code is compiled to, and what it does to abstract values: plain functions of Lean. -/
import Derived.Test.YtmjdgpiofhildaaDoorAbs1
namespace Go.Proofs.YtmjdgpiofhildaaDoor

/-- A block of the abstract heap: a variable, an owned array (its version, its rows, whether it may still be written), a map, a string's iterator. -/
inductive Blk where
  | cells (vs : List AV)
  | arr (size ver : Nat) (rows : List (List AV)) (wr : Bool)
  | map (es : List (AV × AV))
  | iter (s : List UInt8) (pos : Nat)
  | dead
  deriving Inhabited

abbrev Heap := List Blk

/-- What a plain cell holds. -/
inductive EK where
  | b | i | s
  deriving Inhabited

/-- Operations, resolved: sizes, offsets and zero values stand in them. -/
inductive AO where
  | bot
  | mv
  | pick
  | strid
  | bin (op : BinOp)
  | eqA (neg : Bool) (ks : List EK)
  | eqB (neg : Bool)
  | un (op : UnOp)
  | conv (k : IntKind)
  | fadr (off : Nat)
  | fld (off size : Nat) (agg : Bool)
  | iadr (size : Nat)
  | aadr (len size : Nat)
  | istr
  | iarr (len size : Nat) (agg : Bool)
  | ld (size : Nat) (agg : Bool)
  | len (k : Nat)
  | ext (i : Nat)
  | look (kind : EK) (ok : Bool) (zero : AV)
  | mkfn (f : FuncId)
  | mkif (t : TypeId)
  | slc (size : Option Nat) (lo hi mx : Bool)
  | bld (zero : List AV) (parts : List (Nat × Nat))
  | min
  | max
  | nilck
  | alloc (zero : List AV)
  | box
  | st (size : Nat)
  | newnil (size : Nat)
  | mkmap
  | mapup (kind : EK)
  | mksl (zero : List AV) (bytes : Nat)
  | bsl (own : Bool) (size : Nat)
  | app (str : Bool) (size bytes : Nat)
  | rng
  | nxt
  | call (f : FuncId)
  | callv
  deriving Inhabited

/-- Where an operand comes from: a temporary, or a constant. -/
inductive At where
  | t (n : Nat)
  | c (v : AV)
  deriving Inhabited

/-- One operation: under a guard (a temporary, and what it must hold), into a temporary (kept, or not). -/
structure MI where
  g : Option (Nat × Bool)
  dst : Option Nat
  kept : Bool
  o : AO
  args : List At
  deriving Inhabited

/-- A state: temporaries of the running region, kept temporaries, heap. -/
inductive R where
  | ok (env fr : List (Nat × AV)) (h : Heap)
  | bad
  deriving Inhabited

def lkp (t : Nat) : List (Nat × AV) → Option AV
  | [] => none
  | (k, v) :: r => if t = k then some v else lkp t r

def upd (t : Nat) (v : AV) : List (Nat × AV) → List (Nat × AV)
  | [] => []
  | (k, x) :: r => if t = k then (k, v) :: r else (k, x) :: upd t v r

def getT (env fr : List (Nat × AV)) (t : Nat) : Option AV :=
  match lkp t env with
  | some v => some v
  | none => lkp t fr

def getA (e : Nat → Option AV) : At → Option AV
  | .t n => e n
  | .c v => some v

def getAs (e : Nat → Option AV) : List At → Option (List AV)
  | [] => some []
  | a :: as => match getA e a, getAs e as with
    | some v, some vs => some (v :: vs)
    | _, _ => none

/-! ### Numbers, strings -/
def intBin (op : BinOp) (k : IntKind) (a b : Int) : Option AV :=
  match op with
  | .add => some (.int k (k.wrap (a + b)))
  | .sub => some (.int k (k.wrap (a - b)))
  | .mul => some (.int k (k.wrap (a * b)))
  | .quo => if b = 0 then none else some (.int k (k.wrap (a.tdiv b)))
  | .rem => if b = 0 then none else some (.int k (a.tmod b))
  | .and => some (.int k (k.wrap (BitVec.ofInt k.bits a &&& BitVec.ofInt k.bits b).toNat))
  | .or => some (.int k (k.wrap (BitVec.ofInt k.bits a ||| BitVec.ofInt k.bits b).toNat))
  | .xor => some (.int k (k.wrap (BitVec.ofInt k.bits a ^^^ BitVec.ofInt k.bits b).toNat))
  | .andNot => some (.int k (k.wrap (BitVec.ofInt k.bits a &&& ~~~ BitVec.ofInt k.bits b).toNat))
  | .eql => some (.bool (a == b))
  | .neq => some (.bool (a != b))
  | .lss => some (.bool (decide (a < b)))
  | .leq => some (.bool (decide (a ≤ b)))
  | .gtr => some (.bool (decide (b < a)))
  | .geq => some (.bool (decide (b ≤ a)))
  | _ => none

def strMax : Nat := 1099511627776

def strBin (op : BinOp) (a b : List UInt8) : Option AV :=
  match op with
  | .add => if a.length + b.length ≤ strMax then some (.str (a ++ b)) else none
  | .eql => some (.bool (a == b))
  | .neq => some (.bool (!(a == b)))
  | .lss => some (.bool (Op.bytesLess a b))
  | .leq => some (.bool (Op.bytesLess a b || a == b))
  | .gtr => some (.bool (!(Op.bytesLess a b || a == b)))
  | .geq => some (.bool (!(Op.bytesLess a b)))
  | _ => none

def binAV (op : BinOp) : AV → AV → Option AV
  | .int k a, .int k' b =>
    if op = .shl ∨ op = .shr then
      (if b < 0 then none else some (.int k (if op = .shl then k.wrap (a * 2 ^ (Nat.min b.toNat k.bits)) else a.fdiv (2 ^ (Nat.min b.toNat k.bits)))))
    else if k = k' then intBin op k a b else none
  | .str a, .str b => strBin op a b
  | _, _ => none

def unAV (op : UnOp) : AV → Option AV
  | .bool b => match op with | .not => some (.bool (!b)) | _ => none
  | .int k n => match op with
    | .neg => some (.int k (k.wrap (0 - n)))
    | .xor => some (.int k (k.wrap (BitVec.ofInt k.bits (if k.signed then -1 else k.max) ^^^ BitVec.ofInt k.bits n).toNat))
    | _ => none
  | _ => none

/-- Plain cells, one by one. -/
def eqCells : List EK → List AV → List AV → Option Bool
  | [], [], [] => some true
  | .i :: ks, .int k a :: x, .int k' b :: y => if k = k' then (if a = b then eqCells ks x y else some false) else none
  | .s :: ks, .str a :: x, .str b :: y => if a = b then eqCells ks x y else some false
  | .b :: ks, .bool a :: x, .bool b :: y => if a = b then eqCells ks x y else some false
  | _, _, _ => none

/-! ### Cells of a variable or of a row -/
def mkVal (agg : Bool) (size : Nat) (cs : List AV) : Option AV :=
  if agg then (if cs.length = size then some (.agg cs) else none)
  else match cs with
    | [v] => some v
    | _ => none

def cut (cs : List AV) (off size : Nat) : List AV := (cs.drop off).take size

def setAt : List AV → Nat → List AV → List AV
  | base, _, [] => base
  | base, off, c :: cs => setAt (base.set off c) (off + 1) cs

def loadAV (size : Nat) (agg : Bool) (h : Heap) : AV → Option AV
  | .ptr l off => match h[l]? with
    | some (.cells vs) => mkVal agg size (cut vs off size)
    | _ => none
  | .fptr row off => mkVal agg size (cut row off size)
  | .eptr l ver i off => match h[l]? with
    | some (.arr _ ver' rows _) => if ver = ver' then (match rows[i]? with
      | some row => mkVal agg size (cut row off size)
      | none => none) else none
    | _ => none
  | _ => none

def rowsOf (h : Heap) : AV → Option (List (List AV))
  | .sl rows => some rows
  | .tsl rows => some rows
  | .nils => some []
  | .own l ver n => match h[l]? with
    | some (.arr _ ver' rows _) => if ver = ver' ∧ n ≤ rows.length then some (rows.take n) else none
    | _ => none
  | _ => none

def iadrAV (size : Nat) (h : Heap) : AV → AV → Option AV
  | .sl rows, .int _ i => if 0 ≤ i then (match rows[i.toNat]? with
    | some row => if row.length = size then some (.fptr row 0) else none
    | none => none) else none
  | .tsl rows, .int _ i => if 0 ≤ i then (match rows[i.toNat]? with
    | some row => if row.length = size then some (.fptr row 0) else none
    | none => none) else none
  | .own l ver n, .int _ i => match h[l]? with
    | some (.arr _ ver' rows _) => if ver = ver' ∧ n ≤ rows.length ∧ 0 ≤ i ∧ i < n then (match rows[i.toNat]? with
      | some row => if row.length = size then some (.eptr l ver i.toNat 0) else none
      | none => none) else none
    | _ => none
  | _, _ => none

/-- The length of a string (0), a slice (1), a map (2). -/
def lenAV (h : Heap) : Nat → AV → Option AV
  | 0, .str s => some (.int .i64 s.length)
  | 1, .sl rows => some (.int .i64 rows.length)
  | 1, .tsl rows => some (.int .i64 rows.length)
  | 1, .nils => some (.int .i64 0)
  | 1, .own _ _ n => some (.int .i64 n)
  | 2, .map l => match h[l]? with
    | some (.map es) => some (.int .i64 es.length)
    | _ => none
  | 2, .nilm => some (.int .i64 0)
  | _, _ => none

/-! ### Maps -/
def keyEq : EK → AV → AV → Option Bool
  | .s, .str a, .str b => some (a == b)
  | .i, .int k a, .int k' b => if k = k' then some (a == b) else none
  | .b, .bool a, .bool b => some (a == b)
  | _, _, _ => none

def mget (e : EK) (k : AV) : List (AV × AV) → Option (Option AV)
  | [] => some none
  | (k', v) :: r => match keyEq e k k' with
    | some true => some (some v)
    | some false => mget e k r
    | none => none

def mput (e : EK) (k v : AV) : List (AV × AV) → Option (List (AV × AV))
  | [] => some [(k, v)]
  | (k', u) :: r => match keyEq e k k' with
    | some true => some ((k', v) :: r)
    | some false => (mput e k v r).map ((k', u) :: ·)
    | none => none

def isKey : EK → AV → Bool
  | .s, .str _ => true
  | .i, .int _ _ => true
  | .b, .bool _ => true
  | _, _ => false

/-! ### Slices of strings and of slices -/
def slc1 (b : Bool) (bs : List AV) : Option (Option Int × List AV) :=
  if b then (match bs with
    | .int _ n :: r => some (some n, r)
    | _ => none)
  else some (none, bs)

def slcArgs (lo hi mx : Bool) (bs : List AV) : Option (Option Int × Option Int × Option Int) :=
  match slc1 lo bs with
  | some (l, b1) => match slc1 hi b1 with
    | some (r, b2) => match slc1 mx b2 with
      | some (m, []) => some (l, r, m)
      | _ => none
    | none => none
  | none => none

def sizesOk (n : Nat) : List (List AV) → Bool
  | [] => true
  | r :: rs => r.length = n && sizesOk n rs

def slcStr (s : List UInt8) (lo hi : Option Int) : Option AV :=
  if 0 ≤ lo.getD 0 ∧ lo.getD 0 ≤ hi.getD s.length ∧ hi.getD s.length ≤ s.length then some (.str ((s.take (hi.getD s.length).toNat).drop (lo.getD 0).toNat)) else none

def slcRows (size : Nat) (rows : List (List AV)) (lo hi : Option Int) : Option Int → Option AV
  | none => if 0 ≤ lo.getD 0 ∧ lo.getD 0 ≤ hi.getD rows.length ∧ hi.getD rows.length ≤ rows.length ∧ sizesOk size rows then some (.sl ((rows.take (hi.getD rows.length).toNat).drop (lo.getD 0).toNat)) else none
  | some m => if hi = some m ∧ 0 ≤ lo.getD 0 ∧ lo.getD 0 ≤ m ∧ m ≤ rows.length ∧ sizesOk size rows then some (.tsl ((rows.take m.toNat).drop (lo.getD 0).toNat)) else none

/-- A slice of a string (no size), or of a frozen slice. -/
def slcAV (size : Option Nat) (x : AV) (lo hi mx : Option Int) : Option AV :=
  match size, x with
  | none, .str s => if mx.isNone then slcStr s lo hi else none
  | some n, .sl rows => slcRows n rows lo hi mx
  | some n, .tsl rows => if mx.isNone then slcRows n rows lo hi none else none
  | some _, .nils => if mx.isNone ∧ lo.getD 0 = 0 ∧ hi.getD 0 = 0 then some .nils else none
  | _, _ => none

def bldAV : List AV → List (Nat × Nat) → List AV → Option (List AV)
  | base, [], [] => some base
  | base, (off, size) :: ps, v :: vs => if v.cells.length = size ∧ 0 < size ∧ off + size ≤ base.length then bldAV (setAt base off v.cells) ps vs else none
  | _, _, _ => none

def minAV : AV → AV → Option AV
  | .int k x, .int k' y => if k = k' then some (.int k (if y < x then y else x)) else none
  | _, _ => none

def maxAV : AV → AV → Option AV
  | .int k x, .int k' y => if k = k' then some (.int k (if x < y then y else x)) else none
  | _, _ => none

/-- What neither makes nor turns anything. -/
def evalPure (h : Heap) : AO → List AV → Option AV
  | .mv, [x] => some x
  | .pick, [.bool c, x, y] => some (if c then x else y)
  | .strid, [.str s] => some (.str s)
  | .bin op, [x, y] => binAV op x y
  | .eqA neg ks, [.agg xs, .agg ys] => if xs.length = ks.length ∧ ys.length = ks.length then (eqCells ks xs ys).map fun b => .bool (if neg then !b else b) else none
  | .eqB neg, [.bool x, .bool y] => some (.bool (if neg then !(x == y) else x == y))
  | .un op, [x] => unAV op x
  | .conv k, [.int _ n] => some (.int k (k.wrap n))
  | .fadr o, [.ptr l off] => some (.ptr l (off + o))
  | .fadr o, [.fptr row off] => some (.fptr row (off + o))
  | .fadr o, [.eptr l ver i off] => some (.eptr l ver i (off + o))
  | .fld off size agg, [.agg cs] => mkVal agg size (cut cs off size)
  | .iadr size, [x, i] => iadrAV size h x i
  | .aadr len size, [.ptr l off, .int _ i] => if 0 ≤ i ∧ i < len ∧ 2 ≤ len then some (.ptr l (off + i.toNat * size)) else none
  | .aadr len size, [.fptr row off, .int _ i] => if 0 ≤ i ∧ i < len ∧ 2 ≤ len then some (.fptr row (off + i.toNat * size)) else none
  | .istr, [.str s, .int _ i] => if 0 ≤ i then (match s[i.toNat]? with
    | some b => some (.int .u8 b.toNat)
    | none => none) else none
  | .iarr len size agg, [.agg cs, .int _ i] => if 0 ≤ i ∧ i < len then mkVal agg size (cut cs (i.toNat * size) size) else none
  | .ld size agg, [a] => loadAV size agg h a
  | .len k, [x] => lenAV h k x
  | .ext i, [.tup vs] => vs[i]?
  | .look e ok zero, [m, k] =>
    if isKey e k then
      match m with
      | .map l => match h[l]? with
        | some (.map es) => (mget e k es).map fun
          | some v => if ok then .tup [v, .bool true] else v
          | none => if ok then .tup [zero, .bool false] else zero
        | _ => none
      | .nilm => some (if ok then .tup [zero, .bool false] else zero)
      | _ => none
    else none
  | .mkfn f, caps => some (.fn f caps)
  | .mkif t, [x] => some (.iface t x)
  | .slc size lo hi mx, x :: bs => match slcArgs lo hi mx bs with
    | some (l, r, m) => slcAV size x l r m
    | none => none
  | .bld zero parts, vs => (bldAV zero parts vs).map .agg
  | .min, [x, y] => minAV x y
  | .max, [x, y] => maxAV x y
  | .nilck, [.ptr l off] => some (.ptr l off)
  | .nilck, [.fptr row off] => some (.fptr row off)
  | .nilck, [.eptr l ver i off] => some (.eptr l ver i off)
  | .nilck, [.fn f caps] => some (.fn f caps)
  | _, _ => none

/-! ### Frozen values: what a call that keeps to itself may be handed, and what it hands back -/
mutual
def view (h : Heap) : AV → Option AV
  | .bool b => some (.bool b)
  | .int k n => some (.int k n)
  | .str s => some (.str s)
  | .agg cs => (viewL h cs).map .agg
  | .sl rows => some (.sl rows)
  | .tsl rows => some (.sl rows)
  | .nils => some (.sl [])
  | .own l ver n => (rowsOf h (.own l ver n)).map .sl
  | .fptr row off => some (.fptr row off)
  | .nilp => some .nilp
  | .nilm => some .nilm
  | .nilf => some .nilf
  | .nili => some .nili
  | .fn f caps => (viewL h caps).map (.fn f)
  | .iface t v => (view h v).map (.iface t)
  | .tup vs => (viewL h vs).map .tup
  | _ => none
def viewL (h : Heap) : List AV → Option (List AV)
  | [] => some []
  | a :: as => match view h a, viewL h as with
    | some v, some vs => some (v :: vs)
    | _, _ => none
end

mutual
/-- The owned arrays in a value. -/
def owns : AV → List Nat
  | .own l _ _ => [l]
  | .agg cs => ownsL cs
  | .fn _ caps => ownsL caps
  | .iface _ v => owns v
  | .tup vs => ownsL vs
  | _ => []
def ownsL : List AV → List Nat
  | [] => []
  | a :: as => owns a ++ ownsL as
end

def freeze1 (h : Heap) (l : Nat) : Heap :=
  match h[l]? with
  | some (.arr n ver rows _) => h.set l (.arr n ver rows false)
  | _ => h

/-- From here on nothing writes these arrays. -/
def freezeAll (h : Heap) : List Nat → Heap
  | [] => h
  | l :: ls => freezeAll (freeze1 h l) ls

/-- A value with the arrays in it frozen. -/
def frz (h : Heap) (v : AV) : Option (AV × Heap) := (view h v).map fun u => (u, freezeAll h (owns v))
def frzL (h : Heap) (vs : List AV) : Option (List AV × Heap) := (viewL h vs).map fun us => (us, freezeAll h (ownsL vs))

mutual
def scalar : AV → Bool
  | .bool _ | .int _ _ | .str _ => true
  | .tup vs => scalarL vs
  | _ => false
def scalarL : List AV → Bool
  | [] => true
  | a :: as => scalar a && scalarL as
end

/-- What is known of the functions that are called. -/
inductive CT where
  | pure (F : List AV → Option AV)
  | gen (F : List AV → Heap → Option (AV × Heap))

abbrev Gam := FuncId → Option CT

def callAV (G : Gam) (f : FuncId) (args : List AV) (h : Heap) : Option (AV × Heap) :=
  match G f with
  | some (.pure F) => match viewL h args with
    | some us => match F us with
      | some r => if scalar r then some (r, h) else some (r, freezeAll h (ownsL args))
      | none => none
    | none => none
  | some (.gen F) => F args h
  | none => none

/-- One cell. -/
def oneC : AV → Bool
  | .agg _ | .tup _ | .junk => false
  | _ => true

def onesOk : List (List AV) → Bool
  | [] => true
  | r :: rs => r.all oneC && onesOk rs

def appRows (h : Heap) (str : Bool) (x : AV) : Option (List (List AV)) :=
  if str then (match x with
    | .str s => some (s.map fun b => [.int .u8 b.toNat])
    | _ => none)
  else rowsOf h x

/-- The most bytes that a slice may be asked to take. -/
def byteMax : Nat := 140737488355328

def appAV (size bytes : Nat) (h : Heap) (s : AV) (new : List (List AV)) : Option (AV × Heap) :=
  match s with
  | .own l ver n => match h[l]? with
    | some (.arr sz ver' rows wr) =>
      if ver = ver' ∧ n = rows.length ∧ wr = true ∧ sz = size then
        (if new = [] then some (.own l ver n, h)
         else if (n + new.length) * bytes ≤ byteMax ∧ n + new.length ≤ byteMax then some (.own l (ver + new.length) (n + new.length), h.set l (.arr size (ver + new.length) (rows ++ new) true)) else none)
      else none
    | _ => none
  | .nils =>
    if new = [] then some (.nils, h)
    else if new.length * bytes ≤ byteMax ∧ new.length ≤ byteMax then some (.own h.length 0 new.length, h ++ [.arr size 0 new true]) else none
  | .tsl rows =>
    if new = [] then some (.tsl rows, h)
    else if (rows.length + new.length) * bytes ≤ byteMax ∧ rows.length + new.length ≤ byteMax ∧ sizesOk size rows then some (.own h.length 0 (rows.length + new.length), h ++ [.arr size 0 (rows ++ new) true]) else none
  | _ => none

def stAV (size : Nat) (h : Heap) (a v : AV) : Option Heap :=
  if v.cells.length = size ∧ 0 < size ∧ v.cells.all oneC then
    match a with
    | .ptr l off => match h[l]? with
      | some (.cells vs) => if off + size ≤ vs.length then some (h.set l (.cells (setAt vs off v.cells))) else none
      | _ => none
    | .eptr l ver i off => match frz h v with
      | some (u, h1) => match h1[l]? with
        | some (.arr sz ver' rows true) => if ver = ver' then (match rows[i]? with
          | some row => if off + size ≤ row.length ∧ u.cells.length = size ∧ u.cells.all oneC then some (h1.set l (.arr sz ver (rows.set i (setAt row off u.cells)) true)) else none
          | none => none) else none
        | _ => none
      | none => none
    | _ => none
  else none

def evalEff (G : Gam) (h : Heap) : AO → List AV → Option (AV × Heap)
  | .alloc zero, [] => some (.ptr h.length 0, h ++ [.cells zero])
  | .box, [v] => match v.cells with
    | [] => none
    | c :: cs => some (.ptr h.length 0, h ++ [.cells (c :: cs)])
  | .st size, [a, v] => (stAV size h a v).map fun h' => (.junk, h')
  | .newnil size, [] => some (.own h.length 0 0, h ++ [.arr size 0 [] true])
  | .mkmap, [] => some (.map h.length, h ++ [.map []])
  | .mapup e, [.map l, k, v] => if isKey e k then (match frz h v with
    | some (u, h1) => match h1[l]? with
      | some (.map es) => (mput e k u es).map fun es' => (.junk, h1.set l (.map es'))
      | _ => none
    | none => none) else none
  | .mksl zero bytes, [.int _ n, .int _ c] => if 0 ≤ n ∧ n ≤ c ∧ c.toNat * bytes ≤ byteMax ∧ c.toNat ≤ byteMax then some (.own h.length 0 n.toNat, h ++ [.arr zero.length 0 (List.replicate n.toNat zero) true]) else none
  | .bsl own size, vs => match frzL h vs with
    | some (us, h1) => if sizesOk size (us.map AV.cells) ∧ onesOk (us.map AV.cells) ∧ 0 < size ∧ us.length * size ≤ 16777216 then
        (if own then some (.own h1.length 0 us.length, h1 ++ [.arr size 0 (us.map AV.cells) true]) else some (.tsl (us.map AV.cells), h1)) else none
    | none => none
  | .app str size bytes, [s, x] => match appRows h str x with
    | some new => if sizesOk size new then appAV size bytes h s new else none
    | none => none
  | .nxt, [.ptr l 0] => match h[l]? with
    | some (.iter s pos) => if pos < s.length then some (.tup [.bool true, .int .i64 pos, .int .i32 (Utf8.decode ⟨s.toArray⟩ pos).1], h.set l (.iter s (pos + (Utf8.decode ⟨s.toArray⟩ pos).2))) else some (.tup [.bool false], h)
    | _ => none
  | .rng, [.str s] => some (.ptr h.length 0, h ++ [.iter s 0])
  | .call f, args => callAV G f args h
  | .callv, .fn f caps :: args => callAV G f (args ++ caps) h
  | _, _ => none

/-- Does the operation only look? -/
def AO.quiet : AO → Bool
  | .alloc _ | .box | .st _ | .newnil _ | .mkmap | .mapup _ | .mksl _ _ | .bsl _ _ | .app _ _ _ | .rng | .nxt | .call _ | .callv => false
  | _ => true

def evalAO (G : Gam) (h : Heap) (o : AO) (args : List AV) : Option (AV × Heap) :=
  if o.quiet then (match evalPure h o args with
    | some v => some (v, h)
    | none => none)
  else evalEff G h o args

def bindR (dst : Option Nat) (kept : Bool) (env fr : List (Nat × AV)) : Option (AV × Heap) → R
  | none => .bad
  | some (v, h) => match dst with
    | none => .ok env fr h
    | some t => if kept then .ok env (upd t v fr) h else .ok ((t, v) :: env) fr h

/-- What an operation that is not wanted leaves. -/
def skipped : AV := .tup []

/-- What neither turns the heap nor what is in it: whatever order it comes in. -/
def evalStill (G : Gam) (h : Heap) (o : AO) (args : List AV) : Option AV :=
  if o.quiet then evalPure h o args
  else match o with
    | .call f => match G f with
      | some (.pure F) => match viewL h args with
        | some us => match F us with
          | some r => if scalar r then some r else if ownsL args = [] then some r else none
          | none => none
        | none => none
      | _ => none
    | .bsl false size => if ownsL args = [] then (match viewL h args with
        | some us => if sizesOk size (us.map AV.cells) ∧ onesOk (us.map AV.cells) ∧ 0 < size ∧ us.length * size ≤ 16777216 then some (.tsl (us.map AV.cells)) else none
        | none => none) else none
    | _ => none

/-- Does the operation turn the heap? -/
def AO.loud : AO → Bool
  | .call _ | .bsl false _ => false
  | o => !o.quiet

/-- One operation: what it yields, and the heap behind it. -/
def stepV (G : Gam) (still : Bool) (i : MI) (e : Nat → Option AV) (h : Heap) : Option (AV × Heap) :=
  let go : Option (AV × Heap) := match getAs e i.args with
    | some vs => if still && !i.o.loud then (evalStill G h i.o vs).map fun v => (v, h) else evalAO G h i.o vs
    | none => none
  match i.g with
  | none => go
  | some (t, want) => match e t with
    | some (.bool b) => if b = want then go else some (skipped, h)
    | some (.tup []) => some (skipped, h)
    | _ => none

def evalI (G : Gam) (still : Bool) (i : MI) : R → R
  | .bad => .bad
  | .ok env fr h => bindR i.dst i.kept env fr (stepV G still i (getT env fr) h)

def run (G : Gam) (still : Bool) : List MI → R → R
  | [], r => r
  | i :: is, r => run G still is (evalI G still i r)

end Go.Proofs.YtmjdgpiofhildaaDoor
