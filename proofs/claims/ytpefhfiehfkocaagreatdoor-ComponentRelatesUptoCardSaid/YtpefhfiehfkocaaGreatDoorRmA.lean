/- Numbers and texts as bytes: what is read of them,and that it is what was written: plain laws. Small laws on cells and numbers. Small laws on strings and numbers of the small language. The reference:  -/
import Derived.Test.YtpefhfiehfkocaaGreatDoorAm10
import Derived.Lib.ItoaNum
import Derived.Test.YtpefhfiehfkocaaGreatDoorRecMc
namespace Go.Proofs.YtpefhfiehfkocaaGreatDoor
open Go.RowKit Go.IntWalk
inductive Cnt where
 | ok (n i:Nat)
 | short
 | corrupt
structure Rd where
 rest:Bs
 err:Int
end Go.Proofs.YtpefhfiehfkocaaGreatDoor
namespace Go.Proofs.YtpefhfiehfkocaaGreatDoor
open Go.RowKit Go.IntWalk
@[simp] theorem bin_mulI{a b:Int}:binAV .mul (.int .i64 a) (.int .i64 b)=some (.int .i64 (IntKind.i64.wrap (a*b))):=rfl
theorem i64_small{n:Int}(h0:0≤n)(h1:n<1000):IntKind.i64.wrap n=n:=i64_in _ ⟨by omega,by omega⟩
theorem set_here{h:Heap}{l:Nat}{b:Blk}(hl:h[l]?=some b):h.set l b=h:=by
 apply List.ext_getElem?
 intro j
 rw [List.getElem?_set]
 by_cases e:l=j
 ·subst e
  rw [if_pos rfl,if_pos (List.getElem?_eq_some_iff.1 hl).1,hl]
 ·rw [if_neg e]
section
variable {G:Gam} {s:Bool} {h:Heap}
theorem cut_at{vs:List AV}{off:Nat}{v:AV}(hv:vs[off]?=some v):cut vs off 1=[v]:=by
 obtain ⟨ho,rfl⟩:=List.getElem?_eq_some_iff.1 hv
 unfold cut
 rw [List.drop_eq_getElem_cons ho]
 rfl
theorem ld_cell{l off:Nat}{vs:List AV}{v:AV}(hl:h[l]?=some (.cells vs))(hv:vs[off]?=some v):loadAV 1 false h (.ptr l off)=some v:=by
 simp [loadAV,hl,cut_at hv,mkVal]
@[simp] theorem op_nilck_ptr{l off:Nat}:opV G s h .nilck (some [.ptr l off])=some (.ptr l off,h):=by rw [opV_quiet rfl]; rfl
end
def xo(a b:Int):Int:=IntKind.u64.wrap (BitVec.ofInt 64 a ^^^ BitVec.ofInt 64 b).toNat
def an(a b:Int):Int:=IntKind.u64.wrap (BitVec.ofInt 64 a &&& BitVec.ofInt 64 b).toNat
def oo(a b:Int):Int:=IntKind.u64.wrap (BitVec.ofInt 64 a ||| BitVec.ofInt 64 b).toNat
def nt(a:Int):Int:=IntKind.u64.wrap (BitVec.ofInt 64 IntKind.u64.max ^^^ BitVec.ofInt 64 a).toNat
def sl(a b:Int):Int:=IntKind.u64.wrap (a*2 ^ Nat.min b.toNat 64)
def sr(a b:Int):Int:=a.fdiv (2 ^ Nat.min b.toNat 64)
theorem wU_nonneg(a:Int):0≤IntKind.u64.wrap a:=by
 unfold IntKind.wrap
 simp [IntKind.signed,IntKind.bits]
 exact Int.emod_nonneg _ (by decide)
@[simp] theorem bin_xo{a b:Int}:binAV .xor (.int .u64 a) (.int .u64 b)=some (.int .u64 (xo a b)):=rfl
@[simp] theorem bin_an{a b:Int}:binAV .and (.int .u64 a) (.int .u64 b)=some (.int .u64 (an a b)):=rfl
@[simp] theorem bin_oo{a b:Int}:binAV .or (.int .u64 a) (.int .u64 b)=some (.int .u64 (oo a b)):=rfl
@[simp] theorem un_nt{a:Int}:unAV .xor (.int .u64 a)=some (.int .u64 (nt a)):=rfl
theorem bin_sl{a b:Int}{k:IntKind}(hb:0≤b):binAV .shl (.int .u64 a) (.int k b)=some (.int .u64 (sl a b)):=by
 have:¬ b<0:=by omega
 simp [binAV,this,sl,IntKind.bits]
theorem bin_sr{a b:Int}{k:IntKind}(hb:0≤b):binAV .shr (.int .u64 a) (.int k b)=some (.int .u64 (sr a b)):=by
 have:¬ b<0:=by omega
 simp [binAV,this,sr,IntKind.bits]
abbrev wd(cs:List Int):List AV:=cs.map (AV.int .u64)
abbrev nm(cs:List Int):List AV:=cs.map (AV.int .i64)
section
variable {G:Gam} {s:Bool} {h:Heap}
theorem op_aadr{len size l off i:Nat}{k:IntKind}(hi:i<len)(h2:2≤len):opV G s h (.aadr len size) (some [.ptr l off,.int k i])=some (.ptr l (off+i*size),h):=by
 rw [opV_quiet rfl]
 have:(0:Int)≤i∧(i:Int)<len∧2≤len:=⟨by omega,by omega,h2⟩
 simp [evalPure,this]
theorem op_iarr{len i:Nat}{k:IntKind}{cs:List AV}{v:AV}(hi:i<len)(hv:cs[i]?=some v):opV G s h (.iarr len 1 false) (some [.agg cs,.int k i])=some (v,h):=by
 rw [opV_quiet rfl]
 have h1:(0:Int)≤i∧(i:Int)<len:=⟨by omega,by omega⟩
 have:=cut_at hv
 simp [evalPure,h1,this,mkVal]
theorem cut_whole{vs:List AV}{n:Nat}(hn:vs.length=n):cut vs 0 n=vs:=by subst hn; simp [cut]
theorem op_boxed{v:AV}(hv:v.cells≠[]):opV G s h .box (some [v])=some (.ptr h.length 0,h++[.cells v.cells]):=by
 rw [opV_eff rfl]
 simp only [evalEff]
 split
 ·rename_i e; exact absurd e hv
 ·rename_i c cs e; rw [e]
@[simp] theorem viewL_ints{k:IntKind}:∀ cs:List Int,viewL h (cs.map (AV.int k))=some (cs.map (AV.int k))
 | []=>rfl
 | c::cs=>by simp [viewL_ints cs]
@[simp] theorem ownsL_ints{k:IntKind}:∀ cs:List Int,ownsL (cs.map (AV.int k))=[]
 | []=>rfl
 | c::cs=>by simp [ownsL,owns,ownsL_ints cs]
theorem all_one{f:Int→AV}(hf:∀ x,oneC (f x)=true):∀ cs:List Int,(cs.map f).all oneC=true
 | []=>rfl
 | c::cs=>by simp [hf,all_one hf cs]
theorem st_all{l n:Nat}{vs us:List AV}(hl:h[l]?=some (.cells vs))(h1:vs.length=n)(h2:us.length=n)(h0:0<n)(hone:us.all oneC=true):stAV n h (.ptr l 0) (.agg us)=some (h.set l (.cells us)):=by
 have e:setAt vs 0 us=us:=by rw [setAt_splice _ _ _ (by omega)]; simp; omega
 have hc:(AV.agg us).cells=us:=rfl
 simp only [stAV,hc,hl,e]
 rw [if_pos ⟨h2,h0,hone⟩,if_pos (by omega)]
theorem ld_all{l n:Nat}{vs:List AV}(hl:h[l]?=some (.cells vs))(hn:vs.length=n):loadAV n true h (.ptr l 0)=some (.agg vs):=by
 subst hn; simp [loadAV,hl,cut,mkVal]
theorem st_cell{l off:Nat}{vs:List AV}{k:IntKind}{n:Int}(hl:h[l]?=some (.cells vs))(ho:off<vs.length):stAV 1 h (.ptr l off) (.int k n)=some (h.set l (.cells (vs.set off (.int k n)))):=by
 simp [hl,AV.cells,oneC,setAt,show off+1≤vs.length by omega]
end
def decK(k:IntKind):List AV→Option (List Int)
 | []=>some []
 | .int k' n::r=>if k'=k then (decK k r).map (n::·)else none
 | _=>none
theorem decK_de(k:IntKind):∀ xs:List Int,decK k (xs.map (AV.int k))=some xs
 | []=>rfl
 | x::xs=>by simp [decK,decK_de k xs]
theorem decK_ed(k:IntKind):∀ {l:List AV} {xs:List Int},decK k l=some xs→l=xs.map (AV.int k)
 | [],xs,h=>by simp only [decK,Option.some.injEq]at h; subst h; rfl
 | a::l,xs,h=>by
  unfold decK at h;split at h
  ·rename_i e; cases e
  ·rename_i k' n r e
   injection e with e1 e2; subst e1 e2
   split at h
   ·rename_i hk; subst hk
    simp only [Option.map_eq_some_iff]at h;obtain ⟨ys,h1,rfl⟩:=h;rw [decK_ed _ h1]; rfl
   ·cases h
  ·cases h
def rW:REnc (List Int):=⟨wd,decK .u64,decK_de .u64,fun _ _=>decK_ed .u64⟩
def rN:REnc (List Int):=⟨nm,decK .i64,decK_de .i64,fun _ _=>decK_ed .i64⟩
theorem eAgg_wd(x:List Int):(eAgg rW).enc x=.agg (wd x):=rfl
theorem eAgg_nm(x:List Int):(eAgg rN).enc x=.agg (nm x):=rfl
end Go.Proofs.YtpefhfiehfkocaaGreatDoor
namespace Go.Proofs.YtpefhfiehfkocaaGreatDoor
open Go.RowKit Go.IntWalk
theorem str_add{a b:Bs}(h:a.length+b.length≤strMax):binAV .add (.str a) (.str b)=some (.str (a++b)):=by
 simp only [binAV,strBin]
 simp
 unfold strMax at h ⊢
 omega
theorem vtrunc_len{n:Nat}{fr:List (Nat×AV)}{h:Heap}(hl:h.length=n):trunc n fr h=h:=by
 subst hl
 unfold trunc
 split
 ·exact List.take_length
 ·rfl
end Go.Proofs.YtpefhfiehfkocaaGreatDoor
namespace Go.Proofs.YtpefhfiehfkocaaGreatDoor
open Go.RowKit Go.IntWalk
end Go.Proofs.YtpefhfiehfkocaaGreatDoor
