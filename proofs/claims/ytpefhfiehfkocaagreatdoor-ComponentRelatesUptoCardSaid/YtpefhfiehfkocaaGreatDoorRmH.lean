/- A sponge takes in a string: the method. A sponge's digest: the method. A sponge's digest: the method; the digest of a string. The digest of a string. -/
import Derived.Test.YtpefhfiehfkocaaGreatDoorRmG
namespace Go.Proofs.YtpefhfiehfkocaaGreatDoor
open Go.RowKit Go.IntWalk
abbrev tl2(seen:List Int)(ta sm:Bs):List AV:=wd seen++[.str ta,.str sm]
theorem tl2_low(n:Nat)(seen:List Int)(ta sm:Bs):lowL n (tl2 seen ta sm)=true:=by
 rw [lowL_app,lowL_wd]; rfl
def decSp(vs:List AV):Option (List Int×AV×Int×List Int×Bs×Bs):=
 match decK .u64 (vs.take 25),vs.drop 25 with
 | some st,rest::.int .i64 tk::r=>match decK .u64 (r.take 25),r.drop 25 with
  | some seen,[.str ta,.str sm]=>if st.length=25∧seen.length=25 then some (st,rest,tk,seen,ta,sm)else none
  | _,_=>none
 | _,_=>none
theorem decSp_ed{vs:List AV}{st:List Int}{rest:AV}{tk:Int}{seen:List Int}{ta sm:Bs}(h:decSp vs=some (st,rest,tk,seen,ta,sm)):vs=sp st rest tk (tl2 seen ta sm)∧st.length=25∧seen.length=25:=by
 unfold decSp at h
 split at h
 ·rename_i st' rest' tk' r h1 h2
  split at h
  ·rename_i seen' ta' sm' h3 h4
   split at h
   ·rename_i hc
    simp only [Option.some.injEq,Prod.mk.injEq]at h;obtain ⟨rfl,rfl,rfl,rfl,rfl,rfl⟩:=h;refine ⟨?_,hc⟩
    have e1:=decK_ed _ h1;have e2:=decK_ed _ h3;rw [← List.take_append_drop 25 vs,e1,h2,← List.take_append_drop 25 r,e2,h4]
   ·cases h
  ·cases h
 ·cases h
theorem decSp_de{st:List Int}{rest:AV}{tk:Int}{seen:List Int}{ta sm:Bs}(hs:st.length=25)(hs2:seen.length=25):decSp (sp st rest tk (tl2 seen ta sm))=some (st,rest,tk,seen,ta,sm):=by
 have e1:(tl2 seen ta sm).take 25=wd seen:=by rw [List.take_left' (by simpa using hs2)]
 have e2:(tl2 seen ta sm).drop 25=[.str ta,.str sm]:=by rw [List.drop_left' (by simpa using hs2)]
 simp only [decSp,sp_take hs,sp_drop hs,decK_de,e1,e2,hs,hs2,and_self,if_true]
def bytesI(d:Bs):List Int:=d.map fun b=>(b.toNat:Int)
def wrHeap(st:List Int)(tk:Int)(T:List AV)(bs:List Int)(os:List (List (List AV))):Heap:=
 if bs=[]then [.cells (sp st .nils tk T)]else hold st tk T bs os
def F_Write(args:List AV)(h:Heap):Option (AV×Heap):=
 match args,h with
 | [.ptr 0 0,.tsl [[.str d]]],[.cells vs]=>match decSp vs with
  | some (st,.nils,tk,seen,ta,sm)=>if d.length≤big then
    some (.int .i64 (IntKind.i64.wrap (tk+d.length)),wrHeap (wrRun d.length st (bytesI d) []).1 (IntKind.i64.wrap (tk+d.length)) (tl2 seen ta sm) (wrRun d.length st (bytesI d) []).2.1 (wrRun d.length st (bytesI d) []).2.2)else none
  | _=>none
 | _,_=>none
theorem trunc_lowD{n:Nat}{fr:List (Nat×AV)}{h:Heap}(h1:lowFr n fr=true)(h2:lowH n (h.take n)=true):trunc n fr h=h.take n:=by
 unfold trunc; rw [h1,h2]; rfl
theorem sp_low(n:Nat)(st:List Int)(tk:Int)(seen:List Int)(ta sm:Bs):lowL n (sp st .nils tk (tl2 seen ta sm))=true:=by
 rw [lowL_app,lowL_wd]; simp only [lowL,low,tl2_low]; rfl
theorem lowH_take(n m:Nat):∀ h:Heap,lowH n h=true→lowH n (h.take m)=true:=by
 intro h
 induction h generalizing m with
 | nil=>simp [lowH]
 | cons b h ih=>
  intro hh;simp only [lowH,Bool.and_eq_true]at hh;cases m with
  | zero=>rfl
  | succ m=>simp only [List.take_succ_cons,lowH,hh.1,ih m hh.2,Bool.and_self]
theorem wr_done{fr fr':List (Nat×AV)}(hf:lowFr 2 fr=true)(hf':lowFr 1 fr'=true){st:List Int}{tk:Int}{seen:List Int}{ta sm:Bs}{bs:List Int}{os:List (List (List AV))} :
  trunc 1 fr' (trunc 2 fr (hold st tk (tl2 seen ta sm) bs os))=wrHeap st tk (tl2 seen ta sm) bs os:=by
 by_cases hb:bs=[]
 ·have hl:∀ n,lowH n (Blk.cells (sp st .nils tk (tl2 seen ta sm))::os.map fun r=>Blk.arr 1 0 r false)=true:=fun n=>by
   simp only [lowH,lowB,sp_low,lowH_arrs,Bool.and_self]
  simp only [hold,wrHeap,if_pos hb];rw [trunc_lowD hf (lowH_take _ _ _ (hl 2)),trunc_lowD hf' (lowH_take _ _ _ (lowH_take _ _ _ (hl 1)))];simp
 ·rw [hold_trunc (by omega) (by omega) _ hb (.inl rfl) (by
   cases os with
   | nil=>right; simp [hold,hb]
   | cons o os=>left; simp; omega),hold_trunc (by omega) (by omega) _ hb (.inr (.inr trivial)) (.inl (by omega))]
  simp [wrHeap,hb]
theorem wr0{st:List Int}{tk:Int}{T:List AV}{bs:List Int}{os:List (List (List AV))}:∃ rv,(wrHeap st tk T bs os)[0]?=some (.cells (sp st rv tk T)):=by
 unfold wrHeap hold
 split
 ·exact ⟨_,rfl⟩
 ·exact ⟨_,rfl⟩
theorem wrRun_len:∀ (N:Nat) (st bs:List Int) (os:List (List (List AV))),(wrRun N st bs os).1.length=st.length
 | 0,_,_,_=>rfl
 | N+1,st,bs,os=>by
  simp only [wrRun];split
  ·rfl
  ·rw [wrRun_len N,stepS_len]
theorem sizes_bytes:∀ l:List Int,sizesOk 1 (byteRows l)=true
 | []=>rfl
 | a::l=>by simpa [byteRows,sizesOk] using sizes_bytes l
theorem Write_ok(G:Gam)(hA:G Fn.q40=some (.gen F_absorb)):∀ args h r h',F_Write args h=some (r,h')→wpM G Mc.q42 (genQ Rs.q42 r h') [] (frInit Ks.q42 args) h:=by
 intro args h r h' he
 unfold F_Write at he
 split at he
 ·rename_i d vs
  split at he
  ·rename_i st tk seen ta sm hdec
   split at he
   ·rename_i hbig
    obtain ⟨rfl,hs,hs2⟩:=decSp_ed hdec;injection he with he; injection he with h1 h2; subst h1 h2
    obtain ⟨T,hT⟩:∃ T,T=tl2 seen ta sm:=⟨_,rfl⟩
    have hdone:=fun (fr fr':List (Nat×AV)) hf hf' (st:List Int) (tk:Int) bs os=>wr_done (fr:=fr) (fr':=fr') hf hf' (st:=st) (tk:=tk) (seen:=seen) (ta:=ta) (sm:=sm) (bs:=bs) (os:=os)
    rw [← hT]at hdone ⊢;obtain ⟨tk2,htk⟩:∃ t,t=IntKind.i64.wrap (tk+d.length):=⟨_,rfl⟩
    rw [← htk];have ld26:loadAV 1 false [.cells (sp st .nils tk T)] (.ptr 0 26)=some (.int .i64 tk):=ld_cell rfl (sp_26 hs);have st26:=stAV_cell (h:=[.cells (sp st .nils tk T)]) (l:=0) rfl (off:=26) (v:=.int .i64 tk2) (by rw [sp_len hs]; omega) rfl rfl;rw [sp_set26 hs]at st26;have ld25:loadAV 1 false [.cells (sp st .nils tk2 T)] (.ptr 0 25)=some .nils:=ld_cell rfl (sp_25 hs);have iad:∀ h:Heap,iadrAV 1 h (.tsl [[.str d]]) (.int .i64 0)=some (.fptr [.str d] 0):=fun h=>by simp [iadrAV]
    obtain ⟨R,hR⟩:∃ R,R=wrRun d.length st (bytesI d) []:=⟨_,rfl⟩
    have hRl:R.1.length=25:=by rw [hR,wrRun_len]; exact hs
    obtain ⟨rv,hrv⟩:=wr0 (st:=R.1) (tk:=tk2) (T:=T) (bs:=R.2.1) (os:=R.2.2);have lf:=ld_cell hrv (sp_26 hRl);have hw:IntKind.i64.wrap 1=1:=by decide
    rw [wpM_go];by_cases hd:d=[]
    ·subst hd
     have hR':R=(st,[],[]):=by rw [hR]; rfl
     rw [← hR];have ap:∀ st0 (h:Heap),opV G st0 h (.app true 1 1) (some [.nils,.str []])=some (.nils,h):=fun st0 h=>by rw [opV_eff rfl]; simp [evalEff,appRows,sizesOk,appAV]
     have st25:=stAV_cell (h:=[.cells (sp st .nils tk2 T)]) (l:=0) rfl (off:=25) (v:=.nils) (by rw [sp_len hs]; omega) rfl rfl;rw [sp_set25 hs]at st25;have c1:ltB 0 1=true:=ltB_iff.2 (by omega);have c2:ltB 0 136=true:=ltB_iff.2 (by omega);simp only [List.set_cons_zero]at st26 st25;have hwr:wrHeap R.1 tk2 T R.2.1 R.2.2=[.cells (sp st .nils tk2 T)]:=by rw [hR']; rfl
     rw [hwr]at lf ⊢;have htk':IntKind.i64.wrap tk=tk2:=by rw [htk]; simp
     simp [Mc.q42,frInit,Ks.q42];refine head_go (Mc.q42_L0.eq_1) ?_
     rw [trunc_len (n:=1) rfl];simp [iad,ld26,htk',st26,ld25,ap,st25,c1,-loadAV,-stAV_ptr];refine head_go (Mc.q42_L1.eq_1) ?_
     rw [trunc_len (n:=1) rfl];simp [ld25,sc_geq,c2,hw,-loadAV];refine head_go (Mc.q42_L0.eq_1) ?_
     rw [trunc_len (n:=1) rfl];simp [lf,genQ,Rs.q42,-loadAV]
    ·have hne:bytesI d≠[]:=fun e=>hd (List.map_eq_nil_iff.1 e)
     have hbl:(bytesI d).length=d.length:=by simp [bytesI]
     have hrows:d.map (fun b=>[AV.int .u8 (b.toNat:Int)])=byteRows (bytesI d):=by simp [byteRows,bytesI]
     have hsz:sizesOk 1 (byteRows (bytesI d))=true:=by
      exact sizes_bytes _
     have hne2:byteRows (bytesI d)≠[]:=fun e=>hne (List.map_eq_nil_iff.1 e)
     have hbl2:(byteRows (bytesI d)).length=d.length:=by simp [byteRows,hbl]
     have ap:∀ st0 (h:Heap),opV G st0 h (.app true 1 1) (some [.nils,.str d])=some (.own h.length 0 d.length,h++[.arr 1 0 (byteRows (bytesI d)) true]):=fun st0 h=>by
      rw [opV_eff rfl];have hb2:d.length≤byteMax:=by unfold big at hbig; unfold byteMax; omega
      simp [evalEff,appRows,hrows,hsz,appAV,hne2,hbl2,hb2]
     have st25:=stAV_cell (h:=[.cells (sp st .nils tk2 T),.arr 1 0 (byteRows (bytesI d)) true]) (l:=0) rfl (off:=25) (v:=.own 1 0 d.length) (by rw [sp_len hs]; omega) rfl rfl;rw [sp_set25 hs]at st25;have hho:hold st tk2 T (bytesI d) []=[.cells (sp st (.own 1 0 d.length) tk2 T),.arr 1 0 (byteRows (bytesI d)) true]:=by
      simp [hold,hne,hbl]
     have c1:ltB 0 1=true:=ltB_iff.2 (by omega);simp only [List.set_cons_zero]at st26 st25;have l1:=fun ks Q hk=>wr_L1 G hA (.tsl [[.str d]]) (.str d) tk2 T (ks:=ks) (Q:=Q) d.length st (bytesI d) [] (by omega) (by omega) hs (fun e=>absurd e hne) hk
     rw [hho]at l1;rw [← hR]at l1 ⊢;simp only [wfr]at l1;simp [Mc.q42,frInit,Ks.q42];refine head_go (Mc.q42_L0.eq_1) ?_
     rw [trunc_len (n:=1) rfl];simp [iad,ld26,← htk,st26,ld25,ap,st25,c1,-loadAV,-stAV_ptr];refine l1 _ _ (fun env=>?_)
     simp [hw];refine head_go (Mc.q42_L0.eq_1) ?_
     have e1:=hdone [(0,.ptr 0 0),(1,.tsl [[.str d]]),(4,.int .i64 0),(6,.str d),(7,.tsl [[.str d]]),(8,.int .i64 1),(9,.int .i64 0)] [(0,.ptr 0 0),(1,.tsl [[.str d]]),(4,.int .i64 0),(6,.junk),(7,.tsl [[.str d]]),(8,.int .i64 1),(9,.int .i64 1)] (by simp [lowFr,low]) (by simp [lowFr,low]) R.1 tk2 R.2.1 R.2.2;simp [junkAll,e1,lf,genQ,Rs.q42,-loadAV]
   ·cases he
  ·cases he
 ·cases he
end Go.Proofs.YtpefhfiehfkocaaGreatDoor
namespace Go.Proofs.YtpefhfiehfkocaaGreatDoor
open Go.RowKit Go.IntWalk
section
variable {G:Gam} {h:Heap} {l:Nat} {bs:List Int}
theorem byteRows_get{i:Nat}{v:Int}(hv:bs[i]?=some v):(byteRows bs)[i]?=some [.int .u8 v]:=by simp [byteRows,hv]
theorem byteRows_set{i:Nat}{v:Int}:(byteRows bs).set i [.int .u8 v]=byteRows (bs.set i v):=by simp [byteRows,List.map_set]
theorem byteRows_len:(byteRows bs).length=bs.length:=by simp [byteRows]
theorem ba_at{i n:Nat}{k:IntKind}(hl:h[l]?=some (.arr 1 0 (byteRows bs) true))(hn:n=bs.length)(hi:i<n):iadrAV 1 h (.own l 0 n) (.int k i)=some (.eptr l 0 i 0):=
 iadr_own hl (by rw [byteRows_len]; exact hn) (row:=[.int .u8 bs[i]]) (byteRows_get (by simp [show i<bs.length by omega])) rfl
theorem ba_ld{i:Nat}{v:Int}(hl:h[l]?=some (.arr 1 0 (byteRows bs) true))(hi:bs[i]?=some v):loadAV 1 false h (.eptr l 0 i 0)=some (.int .u8 v):=by
 rw [ld_eptr hl (byteRows_get hi)]; simp
theorem ba_st{st0:Bool}{i:Nat}{v:Int}(hl:h[l]?=some (.arr 1 0 (byteRows bs) true))(hi:i<bs.length):opV G st0 h (.st 1) (some [.eptr l 0 i 0,.int .u8 v])=some (.junk,h.set l (.arr 1 0 (byteRows (bs.set i v)) true)):=by
 rw [op_st_eptr (n:=1) hl (byteRows_get (bs:=bs) (i:=i) (v:=bs[i]) (by simp [hi])) rfl (by omega) rfl (by simp) rfl rfl]
 simp only [setAt,AV.cells]
 rw [← byteRows_set]
 simp
end
def outE(p:List Int):Nat→Nat→List Int→List Int
 | 0,_,o=>o
 | k+1,i,o=>outE p k (i+1) (o.set i (IntKind.u8.wrap (sr (p.getD (i / 8) 0) (8*(i % 8:Nat)))))
theorem outE_len(p:List Int):∀ (k i:Nat) (o:List Int),(outE p k i o).length=o.length
 | 0,_,_=>rfl
 | k+1,i,o=>by rw [outE,outE_len p k]; simp
def inB(n:Int):Prop:=0≤n∧n<256
theorem w8_inB(a:Int):inB (IntKind.u8.wrap a):=by
 unfold inB IntKind.wrap
 simp [IntKind.signed,IntKind.bits]
 exact ⟨Int.emod_nonneg _ (by decide),Int.emod_lt_of_pos _ (by decide)⟩
theorem outE_inB(p:List Int):∀ (k i:Nat) (o:List Int),(∀ n∈o,inB n)→∀ n∈outE p k i o,inB n
 | 0,_,o,h=>h
 | k+1,i,o,h=>by
  rw [outE];refine outE_inB p k (i+1) _ fun n hn=>?_
  rcases List.mem_or_eq_of_mem_set hn with hn | rfl
  ·exact h n hn
  ·exact w8_inB _
def strI(bs:List Int):Bs:=bs.map fun n=>UInt8.ofNat n.toNat
theorem bytes_of:∀ bs:List Int,(∀ n∈bs,inB n)→bytesOfRows (byteRows bs)=some (strI bs)
 | [],_=>rfl
 | n::r,h=>by
  have ih:=bytes_of r (fun x hx=>h x (by simp [hx]));have h1:=h n (by simp);simp only [byteRows,List.map_cons,bytesOfRows];rw [if_pos (show 0≤n∧n<256 from h1)];simp only [byteRows]at ih;rw [ih]; rfl
abbrev smfr(n L M:Nat)(e6:AV)(i:Nat):List (Nat×AV):=[(0,.ptr 0 0),(2,.str []),(3,.ptr n 0),(4,.own L 0 136),(5,.own M 0 32),(6,e6),(65,.int .i64 32),(66,.int .i64 i)]
theorem sum_L0(G:Gam)(n L M:Nat)(p:List Int)(hp:p.length=25)(tl:List AV){ks:List MK}{Q:MPost}:∀ (k i:Nat) (o:List Int) (h:Heap),i+k=32→o.length=32→h.length=M+1→n≠M→h[n]?=some (.cells (wd p++tl))→h[M]?=some (.arr 1 0 (byteRows o) true)→
  (∀ env,exM G .normal ks Q env (smfr n L M .junk 32) (h.set M (.arr 1 0 (byteRows (outE p k i o)) true)))→
  headM G [6] Mc.q49_L0 (M+1) (.blk 0::ks) Q (smfr n L M .junk i) h
 | 0,i,o,h,hi,ho,hN,hne,hl,hm,hk=>by
  have e:i=32:=by omega
  subst e;have hset:h.set M (.arr 1 0 (byteRows (outE p 0 32 o)) true)=h:=set_here hm;rw [hset]at hk;refine head_go (Mc.q49_L0.eq_1) ?_
  rw [trunc_len hN];simp;simpa [smfr] using hk _
 | k+1,i,o,h,hi,ho,hN,hne,hl,hm,hk=>by
  have hlt:ltB i 32=true:=ltB_iff.2 (by omega);have hw:=wrap1 (i:=i) (by unfold big; omega);obtain ⟨q,hqe,hq⟩:=quo8 (i:=i) (by omega);obtain ⟨m,hme,hm8,hmm⟩:=rem8 i;simp only [outE,← hqe,← hme]at hk;have w1:IntKind.i64.wrap (8*(m:Int))=8*m:=i64_small (by omega) (by omega);have hq25:q<25:=by omega
  have aa:=fun st0 h=>op_aadr (G:=G) (s:=st0) (h:=h) (len:=25) (size:=1) (l:=n) (off:=0) (i:=q) (k:=.i64) hq25 (by decide)
  have cc:=ld_cell (h:=h) (l:=n) hl (vs:=wd p++tl) (off:=q) (v:=.int .u64 (p.getD q 0)) (by rw [List.getElem?_append_left (by simp; omega)]; exact get_wd (by omega));have hs2:=bin_sr (a:=p.getD q 0) (b:=8*(m:Int)) (k:=.i64) (by omega);generalize p.getD q 0=v0 at cc hs2 hk;have at1:=ba_at (k:=.i64) (i:=i) (n:=32) hm ho.symm (by omega);have st1:=fun st0=>ba_st (G:=G) (st0:=st0) (i:=i) (v:=IntKind.u8.wrap (sr v0 (8*(m:Int)))) hm (by omega)
  have hMl:M<h.length:=by omega
  have ih:=sum_L0 G n L M p hp tl (ks:=ks) (Q:=Q) k (i+1) (o.set i (IntKind.u8.wrap (sr v0 (8*(m:Int))))) (h.set M (.arr 1 0 (byteRows (o.set i (IntKind.u8.wrap (sr v0 (8*(m:Int)))))) true)) (by omega) (by simpa using ho) (by simpa using hN) hne (by rw [List.getElem?_set_ne (by omega)]; exact hl) (by rw [List.getElem?_set_self hMl]) (by simpa [List.set_set] using hk);simp only [Nat.zero_add,Nat.mul_one]at aa;have st1':=st1 false;refine head_go (Mc.q49_L0.eq_1) ?_
  rw [trunc_len hN];simp [hlt,hq,hmm,w1,aa,cc,hs2,at1,st1',hw,-stAV_ptr,-loadAV,-op_st];refine head_of ?_
  rw [trunc_len (n:=M+1) (by simpa using hN)];simpa [wd,smfr] using ih
end Go.Proofs.YtpefhfiehfkocaaGreatDoor
namespace Go.Proofs.YtpefhfiehfkocaaGreatDoor
open Go.RowKit Go.IntWalk
def xoB(a b:Int):Int:=IntKind.u8.wrap (BitVec.ofInt 8 a ^^^ BitVec.ofInt 8 b).toNat
@[simp] theorem bin_xoB{a b:Int}:binAV .xor (.int .u8 a) (.int .u8 b)=some (.int .u8 (xoB a b)):=rfl
def lastE1(bs:List Int):List Int:=(bs++List.replicate (136-bs.length) 0).set bs.length 6
def lastE(bs:List Int):List Int:=(lastE1 bs).set 135 (xoB ((lastE1 bs).getD 135 0) 128)
theorem lastE1_len{bs:List Int}(hb:bs.length<136):(lastE1 bs).length=136:=by simp [lastE1]; omega
theorem lastE_len{bs:List Int}(hb:bs.length<136):(lastE bs).length=136:=by simp [lastE,lastE1_len hb]
def permS(st bs:List Int):List Int:=permE (fun st c=>roundE st offsL c) (absE st 0 bs) constL
theorem permS_len{st bs:List Int}:(permS st bs).length=st.length:=by unfold permS; rw [permE_len (fun st c=>roundE_len),absE_len]
def outB(st bs:List Int):List Int:=outE (permS st (lastE bs)) 32 0 (List.replicate 32 0)
def restC(n:Nat)(bs:List Int):AV:=if bs=[]then .nils else .own (n+1) 0 bs.length
def cloneH(h:Heap)(st:List Int)(tk:Int)(T:List AV)(bs:List Int):Heap:=
 h++(.cells (sp st (restC h.length bs) tk T)::if bs=[]then []else [Blk.arr 1 0 (byteRows bs) true])
def sumH(h:Heap)(st:List Int)(rest:AV)(tk:Int)(T:List AV)(bs:List Int):Heap:=
 ((((cloneH h st tk T bs++[Blk.arr 1 0 (byteRows (List.replicate 136 0)) true]).set (cloneH h st tk T bs).length (.arr 1 0 (byteRows (lastE bs)) true)).set h.length (.cells (wd (permS st (lastE bs))++restC h.length bs::.int .i64 tk::T)))++[Blk.arr 1 0 (byteRows (outB st bs)) true]).set 0
  (.cells (sp st rest tk (wd st++[.str (strI bs),.str (strI (outB st bs))])))
def F_SumM(args:List AV)(h:Heap):Option (AV×Heap):=
 match args with
 | [.ptr 0 0]=>match h[0]? with
  | some (Blk.cells vs)=>match decSp vs with
   | some (st,rest,tk,seen,ta,[])=>match rowsOf h rest with
    | some rows=>match decRows (rOne (eKind .u8)).dec rows with
     | some bs=>if bs.length<136∧bs.all (fun n=>decide (0≤n∧n<256))then some (.str (strI (outB st bs)),sumH h st rest tk (tl2 seen ta []) bs)else none
     | none=>none
    | none=>none
   | _=>none
  | _=>none
 | _=>none
theorem rows_one{h:Heap}{x:AV}{rows:List (List AV)}(hr:rowsOf h x=some rows):oneC x=true∧x.cells=[x]:=by
 cases x <;> first | (simp [rowsOf]at hr; done) | exact ⟨rfl,rfl⟩
theorem Sum_ok(G:Gam)(hA:G Fn.q40=some (.gen F_absorb))(hC:G Fn.q43=some (.gen F_Clone)):∀ args h r h',F_SumM args h=some (r,h')→wpM G Mc.q49 (genQ Rs.q49 r h') [] (frInit Ks.q49 args) h:=by
 intro args h r h' he
 unfold F_SumM at he
 split at he
 ·split at he
  ·rename_i vs hl
   split at he
   ·rename_i st rest tk seen ta hdec
    split at he
    ·rename_i rows hr
     split at he
     ·rename_i bs hd
      split at he
      ·rename_i hc
       obtain ⟨hb,hin⟩:=hc;obtain ⟨rfl,hs,hs2⟩:=decSp_ed hdec;have e3:=decRows_ed (rOne (eKind .u8)) hd;rw [byte_rows]at e3;subst e3;injection he with he; injection he with h1 h2; subst h1
       have hinb:∀ n∈bs,inB n:=fun n hn=>by simpa [inB] using List.all_eq_true.1 hin n hn
       obtain ⟨hone,hcells⟩:=rows_one hr;obtain ⟨T,hT⟩:∃ T,T=tl2 seen ta []:=⟨_,rfl⟩
       have hTl:T.length=27:=by rw [hT]; simp [hs2]
       rw [← hT]at h2 hl;have hTone:T.all oneC=true:=by rw [hT]; simp [all_one (f:=AV.int .u64) (fun _=>rfl) seen]
       have hll:=(List.getElem?_eq_some_iff.1 hl).1;have g53:loadAV 1 false h (.ptr 0 53)=some (.str []):=by
        refine ld_cell hl ?_
        rw [List.getElem?_append_right (by simp [hs])];simp only [List.length_map,hs];show (rest::.int .i64 tk::T)[53-25]?=_
        rw [hT];simp only [List.getElem?_cons_succ];rw [List.getElem?_append_right (by simp [hs2])];simp [hs2]
       have hall:(sp st rest tk T).all oneC=true:=by
        rw [List.all_append,all_one (f:=AV.int .u64) (fun _=>rfl)];simp [hone,hTone]
       have hlen54:(sp st rest tk T).length=54:=by rw [sp_len hs,hTl]
       have cC:F_Clone [.ptr 0 0] h=some (.ptr h.length 0,cloneH h st tk T bs):=by
        have hsz:=sizes_bytes bs;have hbb:(byteRows bs).length≤byteMax:=by rw [byteRows_len]; unfold byteMax; omega
        simp only [F_Clone,hl,sp_25 hs,hr];rw [if_pos ⟨hlen54,hall,hsz,hbb⟩];simp only [cloneH,restC];by_cases hbn:bs=[]
        ·subst hbn; simp [byteRows,sp_set25 hs]
        ·have:byteRows bs≠[]:=fun e=>hbn (List.map_eq_nil_iff.1 e)
         simp only [if_neg this,if_neg hbn,sp_set25 hs,byteRows_len]
       have cC':opV G false h (.call Fn.q43) (some [.ptr 0 0])=some (.ptr h.length 0,cloneH h st tk T bs):=by rw [op_call_gen hC]; exact cC
       unfold sumH at h2;obtain ⟨H1,hH1⟩:∃ H1,H1=cloneH h st tk T bs:=⟨_,rfl⟩
       have a0:H1[0]?=some (.cells (sp st rest tk T)):=by rw [hH1]; simp only [cloneH]; rw [List.getElem?_append_left hll]; exact hl
       have an:H1[h.length]?=some (.cells (sp st (restC h.length bs) tk T)):=by rw [hH1]; simp [cloneH]
       have hnl:h.length<H1.length:=(List.getElem?_eq_some_iff.1 an).1;have ar:rowsOf H1 (restC h.length bs)=some (byteRows bs):=by
        rw [hH1];by_cases hbn:bs=[]
        ·subst hbn; rfl
        ·have hm:(h++(Blk.cells (sp st (restC h.length bs) tk T)::[Blk.arr 1 0 (byteRows bs) true]))[h.length+1]?=some (.arr 1 0 (byteRows bs) true):=by
          rw [List.getElem?_append_right (by omega)]; simp
         simp only [cloneH,if_neg hbn];rw [show restC h.length bs=.own (h.length+1) 0 bs.length by simp [restC,hbn]]at hm ⊢;exact rows_own hm byteRows_len.symm
       have arOld:rowsOf H1 rest=some (byteRows bs):=by rw [hH1]; exact rows_more hr _
       rw [← hH1]at h2 cC';obtain ⟨rc,hrc⟩:∃ rc,rc=restC h.length bs:=⟨_,rfl⟩
       rw [← hrc]at an ar h2;clear cC hH1;obtain ⟨n,hn⟩:∃ n,n=h.length:=⟨_,rfl⟩
       rw [← hn]at an h2 cC' hnl hll;obtain ⟨L,hL⟩:∃ L,L=H1.length:=⟨_,rfl⟩
       rw [← hL]at h2 hnl;have mk:opV G false H1 (.mksl [.int .u8 0] 1) (some [.int .i64 136,.int .i64 136])=some (.own L 0 136,H1++[Blk.arr 1 0 (byteRows (List.replicate 136 0)) true]):=by
        have:=op_mksl (G:=G) (s:=false) (h:=H1) (zero:=[.int .u8 0]) (bytes:=1) (n:=136) (k:=.i64) (k':=.i64) (by decide) (by decide);rw [hL];exact this
       obtain ⟨H2,hH2⟩:∃ H2,H2=H1++[Blk.arr 1 0 (byteRows (List.replicate 136 0)) true]:=⟨_,rfl⟩
       rw [← hH2]at h2 mk;have b0:H2[0]?=some (.cells (sp st rest tk T)):=by rw [hH2,List.getElem?_append_left (by omega)]; exact a0
       have bn:H2[n]?=some (.cells (sp st rc tk T)):=by rw [hH2,List.getElem?_append_left (by omega)]; exact an
       have bL:H2[L]?=some (.arr 1 0 (byteRows (List.replicate 136 0)) true):=by rw [hH2,hL]; simp
       have br:rowsOf H2 rc=some (byteRows bs):=by rw [hH2]; exact rows_more ar _
       have brO:rowsOf H2 rest=some (byteRows bs):=by rw [hH2]; exact rows_more arOld _
       have hl2:H2.length=L+1:=by rw [hH2,hL]; simp
       have ldr:loadAV 1 false H2 (.ptr n 25)=some rc:=ld_cell bn (sp_25 hs);have hrcL:∀ l v k,rc=.own l v k→l≠L∧l≠n:=fun l v k e=>by
        rw [e]at ar an;refine ⟨fun e2=>?_,fun e2=>?_⟩
        ·subst e2
         simp [rowsOf,List.getElem?_eq_none (show H1.length≤l by omega)]at ar
        ·subst e2
         simp [rowsOf,an]at ar
       have hroL:∀ l v k,rest=.own l v k→l≠L∧l≠n∧l≠0∧l<n:=fun l v k e=>by
        have hr':=hr;rw [e]at hr';have hlt:l<h.length:=by
         rcases Nat.lt_or_ge l h.length with g | g
         ·exact g
         ·simp [rowsOf,List.getElem?_eq_none g]at hr'
        refine ⟨by omega,by omega,fun e2=>?_,by omega⟩
        subst e2; simp [rowsOf,hl]at hr'
       have rset:∀ (H:Heap) (x:AV) (l:Nat) (b:Blk),(∀ l' v k,x=.own l' v k→l'≠l)→rowsOf H x=some (byteRows bs)→rowsOf (H.set l b) x=some (byteRows bs):=fun H x l b hx hr=>by
        cases x <;> first | (simp [rowsOf]at hr; done) | exact hr | skip
        rename_i l2 v k;simp only [rowsOf]at hr ⊢;rw [List.getElem?_set_ne (fun e=>hx l2 v k rfl e.symm)]; exact hr
       have cp:opV G false H2 (.cpy false 1) (some [.own L 0 136,rc])=some (.int .i64 bs.length,H2.set L (.arr 1 0 (byteRows (bs++List.replicate (136-bs.length) 0)) true)):=by
        rw [opV_eff rfl];have hrl:(byteRows (List.replicate 136 (0:Int))).length=136:=by simp [byteRows]
        have hcat:byteRows bs++(byteRows (List.replicate 136 (0:Int))).drop bs.length=byteRows (bs++List.replicate (136-bs.length) 0):=by
         unfold byteRows; rw [List.map_append,← List.map_drop,List.drop_replicate]
        simp only [evalEff,appRows,Bool.false_eq_true,if_false,br,sizes_bytes,if_true,bL,hrl,byteRows_len,hcat];by_cases hbn:bs=[]
        ·subst hbn
         rw [if_pos (show byteRows []=[]from rfl)];simp only [List.nil_append,List.length_nil,Nat.sub_zero];rw [set_here bL]; rfl
        ·have hbn':¬ byteRows bs=[]:=fun e=>hbn (List.map_eq_nil_iff.1 e)
         rw [if_neg hbn',if_pos ⟨trivial,by omega,by omega,trivial⟩]
       obtain ⟨H3,hH3⟩:∃ H3,H3=H2.set L (.arr 1 0 (byteRows (bs++List.replicate (136-bs.length) 0)) true):=⟨_,rfl⟩
       rw [← hH3]at cp;have cn:H3[n]?=some (.cells (sp st rc tk T)):=by rw [hH3,List.getElem?_set_ne (by omega)]; exact bn
       have cL:H3[L]?=some (.arr 1 0 (byteRows (bs++List.replicate (136-bs.length) 0)) true):=by rw [hH3,List.getElem?_set_self (by omega)]
       have cr:rowsOf H3 rc=some (byteRows bs):=by rw [hH3]; exact rset _ _ _ _ (fun l v k e=>(hrcL l v k e).1) br
       have hl3:H3.length=L+1:=by rw [hH3]; simpa using hl2
       have ldr3:loadAV 1 false H3 (.ptr n 25)=some rc:=ld_cell cn (sp_25 hs);have len3:=len_rows cr;rw [byteRows_len]at len3;have hl0:(bs++List.replicate (136-bs.length) (0:Int)).length=136:=by simp; omega
       have at3:=ba_at (k:=.i64) (i:=bs.length) (n:=136) cL hl0.symm hb;have st3:=ba_st (G:=G) (st0:=false) (i:=bs.length) (v:=6) cL (by omega);obtain ⟨H4,hH4⟩:∃ H4,H4=H3.set L (.arr 1 0 (byteRows (lastE1 bs)) true):=⟨_,rfl⟩
       have st3':opV G false H3 (.st 1) (some [.eptr L 0 bs.length 0,.int .u8 6])=some (.junk,H4):=by rw [hH4]; exact st3
       have dn:H4[n]?=some (.cells (sp st rc tk T)):=by rw [hH4,List.getElem?_set_ne (by omega)]; exact cn
       have dL:H4[L]?=some (.arr 1 0 (byteRows (lastE1 bs)) true):=by rw [hH4,List.getElem?_set_self (by omega)]
       have hl4:H4.length=L+1:=by rw [hH4]; simpa using hl3
       have h136:=lastE1_len hb;have at4:iadrAV 1 H4 (.own L 0 136) (.int .i64 135)=some (.eptr L 0 135 0):=ba_at (k:=.i64) (i:=135) (n:=136) dL h136.symm (by omega);have ld4:=ba_ld (i:=135) (v:=(lastE1 bs).getD 135 0) dL (by simp [h136]);have st4:=ba_st (G:=G) (st0:=false) (i:=135) (v:=xoB ((lastE1 bs).getD 135 0) 128) dL (by omega);obtain ⟨H5,hH5⟩:∃ H5,H5=H4.set L (.arr 1 0 (byteRows (lastE bs)) true):=⟨_,rfl⟩
       have st4':opV G false H4 (.st 1) (some [.eptr L 0 135 0,.int .u8 (xoB ((lastE1 bs).getD 135 0) 128)])=some (.junk,H5):=by rw [hH5]; exact st4
       have hH5':H5=H2.set L (.arr 1 0 (byteRows (lastE bs)) true):=by rw [hH5,hH4,hH3]; simp [List.set_set]
       generalize (lastE1 bs).getD 135 0=v135 at ld4 st4';have en:H5[n]?=some (.cells (sp st rc tk T)):=by rw [hH5,List.getElem?_set_ne (by omega)]; exact dn
       have eL:H5[L]?=some (.arr 1 0 (byteRows (lastE bs)) true):=by rw [hH5,List.getElem?_set_self (by omega)]
       have hl5:H5.length=L+1:=by rw [hH5]; simpa using hl4
       have e0:H5[0]?=some (.cells (sp st rest tk T)):=by rw [hH5',List.getElem?_set_ne (by omega)]; exact b0
       have er:rowsOf H5 rest=some (byteRows bs):=by rw [hH5']; exact rset _ _ _ _ (fun l v k e=>(hroL l v k e).1) brO
       have hl136:=lastE_len hb;rw [← hH5']at h2;clear hH5' hH5 hH4 hH3 st3 st4;obtain ⟨la,hla⟩:∃ la,la=lastE bs:=⟨_,rfl⟩
       rw [← hla]at h2 eL hl136;have hpl:(permS st la).length=25:=by rw [permS_len]; exact hs
       have cA:F_absorb [.ptr n 0,.own L 0 136] H5=some (.tup [],H5.set n (.cells (wd (permS st la)++rc::.int .i64 tk::T))):=by
        have e1:decRows (rOne (eKind .u8)).dec (byteRows la)=some la:=decRows_de (rOne (eKind .u8)) _;have e4:rowsOf H5 (.own L 0 136)=some (byteRows la):=rows_own eL (by rw [byteRows_len]; exact hl136.symm);simp only [F_absorb,en,e4,sp_take hs,decK_de,e1,sp_drop hs];rw [if_pos ⟨hs,by omega⟩];rfl
       have cA':opV G false H5 (.call Fn.q40) (some [.ptr n 0,.own L 0 136])=some (.tup [],H5.set n (.cells (wd (permS st la)++rc::.int .i64 tk::T))):=by rw [op_call_gen hA]; exact cA
       clear cA;obtain ⟨o,ho⟩:∃ o,o=outB st bs:=⟨_,rfl⟩
       have ho':o=outE (permS st la) 32 0 (List.replicate 32 0):=by rw [ho,hla]; rfl
       have hoin:∀ n∈o,inB n:=by
        rw [ho'];exact outE_inB _ _ _ _ fun n hn=>by rw [(List.mem_replicate.1 hn).2]; exact ⟨by omega,by omega⟩
       have hol:o.length=32:=by rw [ho',outE_len]; rfl
       rw [← ho]at h2 ⊢;generalize permS st la=p at cA' hpl ho' h2;obtain ⟨H6,hH6⟩:∃ H6,H6=H5.set n (.cells (wd p++rc::.int .i64 tk::T)):=⟨_,rfl⟩
       rw [← hH6]at cA' h2;have f0:H6[0]?=some (.cells (sp st rest tk T)):=by rw [hH6,List.getElem?_set_ne (by omega)]; exact e0
       have fn:H6[n]?=some (.cells (wd p++rc::.int .i64 tk::T)):=by rw [hH6,List.getElem?_set_self (by omega)]
       have fr:rowsOf H6 rest=some (byteRows bs):=by rw [hH6]; exact rset _ _ _ _ (fun l v k e=>(hroL l v k e).2.1) er
       have hl6:H6.length=L+1:=by rw [hH6]; simpa using hl5
       have mk2:opV G false H6 (.mksl [.int .u8 0] 1) (some [.int .i64 32,.int .i64 32])=some (.own (L+1) 0 32,H6++[Blk.arr 1 0 (byteRows (List.replicate 32 0)) true]):=by
        have:=op_mksl (G:=G) (s:=false) (h:=H6) (zero:=[.int .u8 0]) (bytes:=1) (n:=32) (k:=.i64) (k':=.i64) (by decide) (by decide);rw [← hl6];exact this
       have l0:=fun ks Q hk=>sum_L0 G n L (L+1) p hpl (rc::.int .i64 tk::T) (ks:=ks) (Q:=Q) 32 0 (List.replicate 32 0) (H6++[Blk.arr 1 0 (byteRows (List.replicate 32 0)) true]) (by omega) rfl (by simp [hl6]) (by omega) (by rw [List.getElem?_append_left (by omega)]; exact fn) (by rw [List.getElem?_append_right (by omega)]; simp [hl6]) hk
       rw [← ho']at l0;have hset:(H6++[Blk.arr 1 0 (byteRows (List.replicate 32 0)) true]).set (L+1) (.arr 1 0 (byteRows o) true)=H6++[Blk.arr 1 0 (byteRows o) true]:=by
        rw [List.set_append_right _ _ (by omega),hl6]; simp
       rw [hset]at l0;obtain ⟨H8,hH8⟩:∃ H8,H8=H6++[Blk.arr 1 0 (byteRows o) true]:=⟨_,rfl⟩
       rw [← hH8]at l0 h2;have k0:H8[0]?=some (.cells (sp st rest tk T)):=by rw [hH8,List.getElem?_append_left (by omega)]; exact f0
       have kr:rowsOf H8 rest=some (byteRows bs):=by rw [hH8]; exact rows_more fr _
       have kM:H8[L+1]?=some (.arr 1 0 (byteRows o) true):=by rw [hH8,List.getElem?_append_right (by omega)]; simp [hl6]
       have hl8:H8.length=L+2:=by rw [hH8]; simp [hl6]
       have ld1:loadAV 25 true H8 (.ptr 0 0)=some (.agg (wd st)):=by
        have hc:cut (sp st rest tk T) 0 25=wd st:=by
         unfold cut; rw [List.drop_zero,List.take_left' (by simpa using hs)]
        simp only [loadAV,k0,hc,mkVal];simp [hs]
       have ld2:loadAV 1 false H8 (.ptr 0 25)=some rest:=ld_cell k0 (sp_25 hs);have b1:∀ st0,opV G st0 H8 .b2s (some [rest])=some (.str (strI bs),H8):=fun st0=>by
        rw [opV_quiet rfl]; simp [evalPure,kr,bytes_of bs hinb]
       have b2:∀ st0,opV G st0 H8 .b2s (some [.own (L+1) 0 32])=some (.str (strI o),H8):=fun st0=>by
        rw [opV_quiet rfl];have:=rows_own kM (n:=32) (by rw [byteRows_len]; exact hol.symm);simp [evalPure,this,bytes_of o hoin]
       have hl27:(sp st rest tk T).length=54:=hlen54;have s1:stAV 25 H8 (.ptr 0 27) (.agg (wd st))=some (H8.set 0 (.cells (sp st rest tk (wd st++[.str ta,.str []])))):=by
        have hcs:(AV.agg (wd st)).cells=wd st:=rfl;have hsp:setAt (sp st rest tk T) 27 (wd st)=sp st rest tk (wd st++[.str ta,.str []]):=by
         rw [setAt_splice _ _ _ (by rw [hl27]; simp; omega)];have q1:(sp st rest tk T).take 27=wd st++[rest,.int .i64 tk]:=by
          rw [List.take_append,List.take_of_length_le (by simp [hs])];simp [hs]
         have q2:(sp st rest tk T).drop (27+(wd st).length)=[.str ta,.str []]:=by
          rw [List.drop_append,List.drop_of_length_le (by simp [hs])];simp only [List.length_map,hs,List.nil_append];show (rest::.int .i64 tk::T).drop 27=_
          simp only [List.drop_succ_cons];rw [hT,List.drop_left' (by simpa using hs2)]
         rw [q1,q2]; simp
        simp only [stAV,hcs,k0,hsp];rw [if_pos ⟨by simpa using hs,by omega,all_one (fun _=>rfl) st⟩,if_pos (by rw [hl27]; omega)]
       obtain ⟨H9,hH9⟩:∃ H9,H9=H8.set 0 (.cells (sp st rest tk (wd st++[.str ta,.str []]))):=⟨_,rfl⟩
       rw [← hH9]at s1;have m0:H9[0]?=some (.cells (sp st rest tk (wd st++[.str ta,.str []]))):=by rw [hH9,List.getElem?_set_self (by omega)]
       have hm54:∀ a b:AV,(sp st rest tk (wd st++[a,b])).length=54:=fun a b=>by rw [sp_len hs]; simp [hs]
       have q52:∀ a b c:AV,(sp st rest tk (wd st++[a,b])).set 52 c=sp st rest tk (wd st++[c,b]):=fun a b c=>by
        rw [List.set_append_right _ _ (by simp [hs])];simp only [List.length_map,hs];show wd st++(rest::.int .i64 tk::(wd st++[a,b])).set 27 c=_
        simp only [List.set_cons_succ];rw [List.set_append_right _ _ (by simp [hs])]; simp [hs]
       have q53:∀ a b c:AV,(sp st rest tk (wd st++[a,b])).set 53 c=sp st rest tk (wd st++[a,c]):=fun a b c=>by
        rw [List.set_append_right _ _ (by simp [hs])];simp only [List.length_map,hs];show wd st++(rest::.int .i64 tk::(wd st++[a,b])).set 28 c=_
        simp only [List.set_cons_succ];rw [List.set_append_right _ _ (by simp [hs])]; simp [hs]
       have s2:=stAV_cell m0 (off:=52) (v:=.str (strI bs)) (by rw [hm54]; omega) rfl rfl;rw [q52]at s2;obtain ⟨H10,hH10⟩:∃ H10,H10=H9.set 0 (.cells (sp st rest tk (wd st++[.str (strI bs),.str []]))):=⟨_,rfl⟩
       rw [← hH10]at s2;have n0:H10[0]?=some (.cells (sp st rest tk (wd st++[.str (strI bs),.str []]))):=by rw [hH10,List.getElem?_set_self (by rw [hH9]; simp; omega)]
       have s3:=stAV_cell n0 (off:=53) (v:=.str (strI o)) (by rw [hm54]; omega) rfl rfl;rw [q53]at s3;have hfin:H10.set 0 (.cells (sp st rest tk (wd st++[.str (strI bs),.str (strI o)])))=h':=by rw [hH10,hH9,h2.symm]; simp [List.set_set]
       rw [hfin]at s3;have z0:h'[0]?=some (.cells (sp st rest tk (wd st++[.str (strI bs),.str (strI o)]))):=by rw [← hfin,List.getElem?_set_self (by rw [hH10,hH9]; simp; omega)]
       have ldz:loadAV 1 false h' (.ptr 0 53)=some (.str (strI o)):=by
        refine ld_cell z0 ?_
        rw [List.getElem?_append_right (by simp [hs])];simp only [List.length_map,hs];show (rest::.int .i64 tk::(wd st++[AV.str (strI bs),.str (strI o)]))[28]?=_
        simp only [List.getElem?_cons_succ];rw [List.getElem?_append_right (by simp [hs])]; simp [hs]
       have bneq:binAV .neq (.str []) (.str [])=some (.bool false):=rfl;have lo:∀ H:Heap,lenAV H 1 (.own (L+1) 0 32)=some (.int .i64 32):=fun H=>by simp
       rw [wpM_go];simp [Mc.q49,lo,frInit,Ks.q49,g53,bneq,cC',mk,ldr,cp,ldr3,len3,at3,st3',at4,ld4,st4',cA',mk2,hl6,-loadAV,-stAV_ptr,-op_st,-lenAV];refine l0 _ _ (fun env=>?_)
       simp [smfr,ld1,ld2,b1,b2,s1,s2,s3,ldz,genQ,Rs.q49,-loadAV,-stAV_ptr]
      ·cases he
     ·cases he
    ·cases he
   ·cases he
  ·cases he
 ·cases he
end Go.Proofs.YtpefhfiehfkocaaGreatDoor
namespace Go.Proofs.YtpefhfiehfkocaaGreatDoor
open Go.RowKit Go.IntWalk
def zs25:List Int:=[0,0,0,0,0,0,0,0,0,0,0,0,0,0,0,0,0,0,0,0,0,0,0,0,0]
theorem decSp_new:decSp newS=some (zs25,.nils,0,zs25,[],[]):=rfl
def dsum(d:Bs):Bs:=strI (outB (wrRun d.length zs25 (bytesI d) []).1 (wrRun d.length zs25 (bytesI d) []).2.1)
def F_dSum:List AV→Option AV:=F1 eStr eStr fun d=>if d.length≤big then some (dsum d)else none
theorem wrRun_short:∀ (N:Nat) (st bs:List Int) (os:List (List (List AV))),bs.length<136*(N+1)→(wrRun N st bs os).2.1.length<136
 | 0,_,_,_,h=>by simpa [wrRun] using h
 | N+1,st,bs,os,h=>by
  simp only [wrRun];split
  ·assumption
  ·exact wrRun_short N _ _ _ (by simp; omega)
theorem wrRun_sub:∀ (N:Nat) (st bs:List Int) (os:List (List (List AV))),∀ n∈(wrRun N st bs os).2.1,n∈bs
 | 0,_,_,_=>fun n h=>h
 | N+1,st,bs,os=>fun n h=>by
  simp only [wrRun]at h;split at h
  ·exact h
  ·exact List.mem_of_mem_drop (wrRun_sub N _ _ _ n h)
theorem bytesI_inB(d:Bs):∀ n∈bytesI d,inB n:=fun n hn=>by
 obtain ⟨b,_,rfl⟩:=List.mem_map.1 hn
 have:=b.toNat_lt
 exact ⟨by omega,by omega⟩
theorem wrHeap_sum{st:List Int}{tk:Int}{seen:List Int}{bs:List Int}{os:List (List (List AV))}(hs:st.length=25)(hs2:seen.length=25)(hb:bs.length<136)(hin:∀ n∈bs,inB n) :
  ∃ h',F_SumM [.ptr 0 0] (wrHeap st tk (tl2 seen [] []) bs os)=some (.str (strI (outB st bs)),h'):=by
 have hall:bs.all (fun n=>decide (0≤n∧n<256))=true:=List.all_eq_true.2 fun n hn=>by simpa [inB] using hin n hn
 have hd:decRows (rOne (eKind .u8)).dec (byteRows bs)=some bs:=decRows_de (rOne (eKind .u8)) _
 obtain ⟨rest,h1,h2⟩:∃ rest,(wrHeap st tk (tl2 seen [] []) bs os)[0]?=some (.cells (sp st rest tk (tl2 seen [] [])))∧rowsOf (wrHeap st tk (tl2 seen [] []) bs os) rest=some (byteRows bs):=by
  by_cases hbn:bs=[]
  ·subst hbn
   exact ⟨.nils,by simp [wrHeap],rfl⟩
  ·refine ⟨.own (1+os.length) 0 bs.length,by simp [wrHeap,hold,hbn],?_⟩
   have:(wrHeap st tk (tl2 seen [] []) bs os)[1+os.length]?=some (.arr 1 0 (byteRows bs) true):=by
    simp only [wrHeap,hold,if_neg hbn];rw [Nat.add_comm,List.getElem?_cons_succ,List.getElem?_append_right (by simp)];simp
   exact rows_own this byteRows_len.symm
 refine ⟨sumH (wrHeap st tk (tl2 seen [] []) bs os) st rest tk (tl2 seen [] []) bs,?_⟩
 simp only [F_SumM,h1,decSp_de hs hs2,h2,hd]
 rw [if_pos ⟨hb,hall⟩]
theorem dSum_ok(G:Gam)(hN:G Fn.digest_New=some (.gen F_New))(hW:G Fn.q42=some (.gen F_Write))(hS:G Fn.q49=some (.gen F_SumM)):∀ args r,F_dSum args=some r→wpM G Mc.digest_Sum (pureQ Rs.digest_Sum r) [] (frInit Ks.digest_Sum args) []:=F1_ok fun d r h=>by
 split at h
 ·rename_i hbig
  injection h with h; subst h
  have c1:opV G false [] (.call Fn.digest_New) (some [])=some (.ptr 0 0,[.cells newS]):=by rw [op_call_gen hN]; rfl
  obtain ⟨v,hv⟩:∃ v,F_Write [.ptr 0 0,.tsl [[.str d]]] [.cells newS]=some (v,wrHeap (wrRun d.length zs25 (bytesI d) []).1 (IntKind.i64.wrap (0+d.length)) (tl2 zs25 [] []) (wrRun d.length zs25 (bytesI d) []).2.1 (wrRun d.length zs25 (bytesI d) []).2.2):=by
   refine ⟨.int .i64 (IntKind.i64.wrap (0+d.length)),?_⟩
   simp only [F_Write,decSp_new];rw [if_pos hbig]
  have c2:opV G false [.cells newS] (.call Fn.q42) (some [.ptr 0 0,.tsl [[.str d]]])=some (v,wrHeap (wrRun d.length zs25 (bytesI d) []).1 (IntKind.i64.wrap (0+d.length)) (tl2 zs25 [] []) (wrRun d.length zs25 (bytesI d) []).2.1 (wrRun d.length zs25 (bytesI d) []).2.2):=by
   rw [op_call_gen hW]; exact hv
  obtain ⟨h',hh'⟩:=wrHeap_sum (st:=(wrRun d.length zs25 (bytesI d) []).1) (tk:=IntKind.i64.wrap (0+d.length)) (seen:=zs25) (bs:=(wrRun d.length zs25 (bytesI d) []).2.1) (os:=(wrRun d.length zs25 (bytesI d) []).2.2) (by rw [wrRun_len]; rfl) rfl
   (wrRun_short _ _ _ _ (by simp [bytesI]; omega)) (fun n hn=>bytesI_inB d n (wrRun_sub _ _ _ _ n hn))
  generalize wrHeap (wrRun d.length zs25 (bytesI d) []).1 (IntKind.i64.wrap (0+d.length)) (tl2 zs25 [] []) (wrRun d.length zs25 (bytesI d) []).2.1 (wrRun d.length zs25 (bytesI d) []).2.2=H at c2 hh';have c3:opV G false H (.call Fn.q49) (some [.ptr 0 0])=some (.str (dsum d),h'):=by rw [op_call_gen hS]; exact hh'
  generalize newS=S at c1 c2;rw [wpM_go];simp [Mc.digest_Sum,frInit,Ks.digest_Sum,c1,c2,c3,Rs.digest_Sum,ownsL,owns,viewL,view,sizesOk,onesOk]
 ·cases h
end Go.Proofs.YtpefhfiehfkocaaGreatDoor
