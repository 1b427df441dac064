/- The reference: List,Pack,Join. The reference: Pack,Join. origin.Through,All. The reference: Join,Lines,Become,Union,Through,All of origins. Equality of sets and of lists of numbers,sizes,pl -/
import Derived.Test.YtbfcbkjemlgnpaaGreatDoorOD
namespace Go.Proofs.YtbfcbkjemlgnpaaGreatDoor
open Go.RowKit Go.IntWalk
def F_rList:List AV→Option AV
 | [.sl rows]=>match decAll decSpn rows with
  | some l=>if okL l=true∧validO l=true then some (.sl (lnRows (listO l)))else none
  | none=>none
 | _=>none
theorem lnS_go{p:Bs}{n t:Int}(h:n<t):lnS ⟨p,n,t⟩=⟨p,n⟩::lnS ⟨p,n+1,t⟩:=by
 have e:(t-n).toNat=(t-(n+1)).toNat+1:=by omega
 simp only [lnS]
 rw [e,List.range_succ_eq_map,List.map_cons,List.map_map]
 congr 1
 ·simp
 ·apply List.map_congr_left
  intro k _;simp; omega
theorem lnS_end{p:Bs}{n t:Int}(h:¬ n<t):lnS ⟨p,n,t⟩=[]:=by
 have e:(t-n).toNat=0:=by omega
 simp [lnS,e]
theorem lnS_len(s:Sp):(lnS s).length=(s.t-s.f).toNat:=by simp [lnS]
theorem listO_len:∀ {l:List Sp},(∀ s∈l,spanO s=true)→(listO l).length≤1024*l.length
 | [],_=>by simp [listO]
 | s::r,h=>by
  have h1:=(spanO_iff.1 (h s (by simp))).1;have ih:=listO_len (l:=r) fun x hx=>h x (List.mem_cons_of_mem _ hx)
  have h2:=lnS_len s;rw [listO,List.flatMap_cons,← listO,List.length_append,List.length_cons];omega
theorem rList_L1{G:Gam}{l:List Sp}{s:Sp}{i:Nat}(hx:l[i]?=some s){n0:Nat}{ks:List MK}{Q:MPost}{v2:AV}(hs:s.t≤1024)(os0:List Ln)(hos:os0.length≤1024000000)(hf:0≤s.f)
  (hk:∀ env,exM G .normal ks Q env [(0,.sl (spRows l)),(2,v2),(3,oA 1 (os0++lnS s)),(4,.int .i64 i),(5,.int .i64 (if s.f<s.t then s.t else s.f))] (oH P2 2 Ln.row (os0++lnS s))) :
  ∀ (m:Nat) (n:Int) (os:List Ln),(s.t-n).toNat=m→s.f≤n→(n≤s.t∨n=s.f)→os0++lnS s=os++lnS ⟨s.p,n,s.t⟩→((oH P2 2 Ln.row os).length=n0∨(n0=1))→
  headM G [] Mc.q85_L1 n0 (.blk 2::ks) Q [(0,.sl (spRows l)),(2,v2),(3,oA 1 os),(4,.int .i64 i),(5,.int .i64 n)] (oH P2 2 Ln.row os):=by
 intro m
 have ia:=ia_sp hx
 have l2:=ld_fsp2 s
 have l0:=ld_fsp0 s
 have hh:∀ (os:List Ln) (n:Int),((oH P2 2 Ln.row os).length=n0∨n0=1)→trunc n0 (junkAll [] [(0,.sl (spRows l)),(2,v2),(3,oA 1 os),(4,.int .i64 i),(5,.int .i64 n)]) (oH P2 2 Ln.row os)=oH P2 2 Ln.row os:=by
  intro os n h;rcases h with h | h
  ·exact trunc_same (.inl h)
  ·subst h
   cases os with
   | nil=>exact trunc_same (.inl rfl)
   | cons x r=>exact trunc_same (.inr (by simp [junkAll,lowFr,low,oA]))
 induction m with
 | zero=>
  intro n os hm h1 h2 he hn;have hge:¬ n<s.t:=by omega
  have q:ltB n s.t=false:=ltB_not.2 (by omega);rw [lnS_end (p:=s.p) (n:=n) (t:=s.t) hge,List.append_nil]at he;have en:n=if s.f<s.t then s.t else s.f:=by split <;> omega
  rw [← en]at hk;subst he;refine head_go (Mc.q85_L1.eq_1) ?_
  rw [hh _ _ hn];generalize oA 1 (os0++lnS s)=oo at *;generalize oH P2 2 Ln.row (os0++lnS s)=HH at *;generalize spRows l=RL at *;simp [ia,l2,q,-loadAV];exact hk _
 | succ m ih=>
  intro n os hm h1 h2 he hn;have hlt:n<s.t:=by omega
  have q:ltB n s.t=true:=ltB_iff.2 hlt;have w1:IntKind.i64.wrap (n+1)=n+1:=i64_in _ ⟨by omega,by omega⟩;rw [lnS_go hlt]at he;have hol:os.length≤1024001024:=by
   have h3:=congrArg List.length he;simp only [List.length_append,List.length_cons,lnS_len]at h3;omega
  have bd:∀ st h,opV G st h (.bld [.str [],.int .i64 0] [(0,1),(1,1)]) (some [.str s.p,.int .i64 n])=some (.agg [.str s.p,.int .i64 n],h):=fun st h=>by rw [opV_quiet rfl]; rfl
  have bs:∀ st h,opV G st h (.bsl false 2) (some [.agg [.str s.p,.int .i64 n]])=some (.tsl [[.str s.p,.int .i64 n]],h):=fun st h=>by rw [op_bsl rfl]; rfl
  have ap:opV G false (oH P2 2 Ln.row os) (.app false 2 24) (some [oA 1 os,.tsl [[.str s.p,.int .i64 n]]])=some (oA 1 (os++[⟨s.p,n⟩]),oH P2 2 Ln.row (os++[⟨s.p,n⟩])):=o_app ln_len (by omega) rfl (by unfold big; omega) ⟨s.p,n⟩;have hn2:(oH P2 2 Ln.row (os++[⟨s.p,n⟩])).length=n0∨n0=1:=by
   rcases hn with hn | hn
   ·cases os with
    | nil=>exact .inr hn.symm
    | cons x r=>left; rw [← hn,oH_snoc]; simp [oH]
   ·exact .inr hn
  have next:=ih (n+1) (os++[⟨s.p,n⟩]) (by omega) (by omega) (.inl (by omega)) (by rw [he]; simp) hn2
  have hc:trunc n0 [(0,AV.sl (spRows l)),(2,v2),(3,oA 1 (os++[⟨s.p,n⟩])),(4,.int .i64 i),(5,.int .i64 (n+1))] (oH P2 2 Ln.row (os++[⟨s.p,n⟩]))=oH P2 2 Ln.row (os++[⟨s.p,n⟩]):=hh _ (n+1) hn2;refine head_go (Mc.q85_L1.eq_1) ?_
  rw [hh _ _ hn];generalize oA 1 os=oo at *;generalize oH P2 2 Ln.row os=HH at *;generalize oA 1 (os++[(⟨s.p,n⟩:Ln)])=oo2 at *;generalize oH P2 2 Ln.row (os++[(⟨s.p,n⟩:Ln)])=HH2 at *;generalize spRows l=RL at *;simp [ia,l2,l0,q,bd,bs,ap,w1,-loadAV,-op_bsl];refine head_of ?_
  simpa [hc] using next
theorem rList_L0{G:Gam}(l:List Sp)(hsp:∀ s∈l,spanO s=true)(hl:l.length≤1000000)(v2:AV):∀ (rest:List Sp) (i:Nat) (os:List Ln) (_:AV),l.drop i=rest→i≤l.length→os.length≤1024*i→listO l=os++listO rest→
  headM G [5] Mc.q85_L0 1 [.blk 0,.seq (.seq (.reg [zm 41 3,zM 2 41]) .ret)] (pureQ Rs.q85 (.sl (lnRows (listO l))))
   [(0,.sl (spRows l)),(2,v2),(3,oA 1 os),(4,.int .i64 i),(5,.junk)] (oH P2 2 Ln.row os)
 | [],i,os,v5,hd,hi,ho,hR=>by
  have hi2:=drop_nil hd;have hq:ltB (i:Int) (l.length:Int)=false:=ltB_not.2 (by omega);have ll:∀ H:Heap,lenAV H 1 (.sl (spRows l))=some (.int .i64 (l.length:Int)):=fun H=>by simp [lenAV]
  have hRo:listO l=os:=by rw [hR]; simp [listO]
  rw [hRo];have vw:=o_view (P:=P2) (n:=2) (e:=Ln.row) (L:=1) rfl os;refine head_go (Mc.q85_L0.eq_1) ?_
  rw [trunc_same (n:=1) (h:=oH P2 2 Ln.row os) ?hh]
  case hh=>cases os with
   | nil=>exact .inl rfl
   | cons x r=>exact .inr (by simp [junkAll,lowFr,low,oA])
  generalize oA 1 os=oo at *;generalize oH P2 2 Ln.row os=HH at *;generalize spRows l=RL at *;simp [ll,hq,vw,pureQ,Rs.q85,lnRows,-lenAV]
 | s::rest,i,os,v5,hd,hi,ho,hR=>by
  obtain ⟨hlt,hx,hxd⟩:=drop_cons hd;have hq:ltB (i:Int) (l.length:Int)=true:=ltB_iff.2 (by omega);have hw:=wrap1 (i:=i) (by unfold big; omega);have ll:∀ H:Heap,lenAV H 1 (.sl (spRows l))=some (.int .i64 (l.length:Int)):=fun H=>by simp [lenAV]
  have ia:=ia_sp hx;have l1:=ld_fsp1 s;have hs:=(spanO_iff.1 (hsp s (List.mem_of_getElem? hx))).1;have hsl:=lnS_len s;have hol:(os++lnS s).length≤1024*(i+1):=by rw [List.length_append]; omega
  have next:=rList_L0 (G:=G) l hsp hl v2 rest (i+1) (os++lnS s) .junk hxd (by omega) hol (by rw [hR]; simp [listO])
  have hc:∀ a:AV,trunc 1 [(0,AV.sl (spRows l)),(2,v2),(3,oA 1 (os++lnS s)),(4,a),(5,.junk)] (oH P2 2 Ln.row (os++lnS s))=oH P2 2 Ln.row (os++lnS s):=fun a=>by
   cases hz:os++lnS s with
   | nil=>exact trunc_same (.inl rfl)
   | cons x r=>exact trunc_same (.inr (by simp [lowFr,low,oA]))
  have hcur:((oH P2 2 Ln.row os).length=(oH P2 2 Ln.row os).length∨(oH P2 2 Ln.row os).length=1):=.inl rfl;have inner:=fun n0 ks Q hk hn=>rList_L1 (G:=G) hx (n0:=n0) (ks:=ks) (Q:=Q) (v2:=v2) hs.2.2 os (by omega) hs.1 hk _ s.f os rfl (Int.le_refl _) (.inr rfl) rfl hn
  refine head_go (Mc.q85_L0.eq_1) ?_
  rw [trunc_same (n:=1) (h:=oH P2 2 Ln.row os) ?hh]
  case hh=>cases os with
   | nil=>exact .inl rfl
   | cons x r=>exact .inr (by simp [junkAll,lowFr,low,oA])
  generalize oA 1 os=oo at *;generalize oH P2 2 Ln.row os=HH at *;generalize oA 1 (os++lnS s)=oo2 at *;generalize oH P2 2 Ln.row (os++lnS s)=HH2 at *;generalize spRows l=RL at *;simp [ll,hq,ia,l1,-lenAV,-loadAV];refine inner _ _ _ (fun env=>?_) (.inl rfl)
  simp [hw];refine head_of ?_
  simpa [junkAll,hc,Rs.q85] using next
theorem rList_ok{G:Gam}(hV:G Fn.q74=some (.pure F_lValid)):∀ args r,F_rList args=some r→wpM G Mc.q85 (pureQ Rs.q85 r) [] (frInit Ks.q85 args) []:=by
 intro args r hF
 unfold F_rList at hF
 split at hF
 ·split at hF
  ·rename_i l hd
   split at hF
   ·rename_i hok
    injection hF with hF; subst hF
    obtain rfl:=spRows_of hd;have va:=use_lValid hV hok.1;rw [hok.2]at va;have b0:∀ st h,opV G st h (.bsl false 2) (some [])=some (.tsl [],h):=fun st h=>by rw [op_bsl rfl]; rfl
    have L0:=rList_L0 (G:=G) l (valid_iff.1 hok.2).1 (okL_of hok.1).1 (.own 0 0 0) l 0 [] .junk rfl (by omega) (by simp) rfl;rw [wpM_go];simp [Mc.q85,Ks.q85,frInit,va,b0,-op_bsl];simpa [oA,oH] using L0
   ·cases hF
  ·cases hF
 ·cases hF
theorem use_rList{G:Gam}(h:G Fn.q85=some (.pure F_rList)){l:List Sp}(h1:okL l=true)(h2:validO l=true)(st:Bool)(H:Heap):opV G st H (.call Fn.q85) (some [.sl (spRows l)])=some (.sl (lnRows (listO l)),H):=
 op_call h (us:=[.sl (spRows l)]) rfl (by simp only [F_rList,dec_spRows]; rw [if_pos ⟨h1,h2⟩]) (.inr rfl)
def F_rPack:List AV→Option AV
 | [.sl rows]=>match decAll decLn rows with
  | some l=>if okN l=true∧(l.all fun x=>decide (0≤x.n)&&decide (x.n≤1000000))=true then some (.sl (spRows (packO l)))else none
  | none=>none
 | _=>none
abbrev P3:Heap:=[.arr 3 0 [] true]
section
variable {os:List Sp} {cur:Sp} {dn:List Sp}
theorem oA_last(dn:List Sp)(cur:Sp):oA 1 (dn++[cur])=.own 1 dn.length (dn.length+1):=oA_snoc 1 dn cur
theorem oH_last(dn:List Sp)(cur:Sp):oH P3 3 Sp.row (dn++[cur])=[.arr 3 0 [] true,.arr 3 dn.length (spRows (dn++[cur])) true]:=oH_snoc P3 3 Sp.row dn cur
theorem pk_ia:iadrAV 3 (oH P3 3 Sp.row (dn++[cur])) (oA 1 (dn++[cur])) (.int .i64 (dn.length:Int))=some (.eptr 1 dn.length dn.length 0):=by
 rw [oA_last,oH_last]
 exact iadr_own (row:=cur.row) rfl (by simp) (spRows_last dn cur) rfl
theorem pk_ld(o:Nat)(v:AV)(hv:cur.row[o]?=some v):loadAV 1 false (oH P3 3 Sp.row (dn++[cur])) (.eptr 1 dn.length dn.length o)=some v:=by
 rw [oH_last,ld_eptr (h:=[.arr 3 0 [] true,.arr 3 dn.length (spRows (dn++[cur])) true]) (row:=cur.row) rfl (spRows_last dn cur)]
 have:o<3:=by have:=(List.getElem?_eq_some_iff.1 hv).1; simpa [Sp.row] using this
 rcases o with _ | _ | _ | o
 ·simp [Sp.row]at hv; subst hv; rfl
 ·simp [Sp.row]at hv; subst hv; rfl
 ·simp [Sp.row]at hv; subst hv; rfl
 ·omega
theorem pk_st{G:Gam}{st:Bool}(t':Int):opV G st (oH P3 3 Sp.row (dn++[cur])) (.st 1) (some [.eptr 1 dn.length dn.length 2,.int .i64 t'])=some (.junk,oH P3 3 Sp.row (dn++[⟨cur.p,cur.f,t'⟩])):=by
 rw [oH_last,oH_last]
 rw [op_st_eptr (h:=[.arr 3 0 [] true,.arr 3 dn.length (spRows (dn++[cur])) true]) (n:=1) rfl (spRows_last dn cur) rfl (by omega) rfl (by simp [Sp.row]) rfl rfl]
 simp [spRows,Sp.row,setAt]
end
end Go.Proofs.YtbfcbkjemlgnpaaGreatDoor
namespace Go.Proofs.YtbfcbkjemlgnpaaGreatDoor
open Go.RowKit Go.IntWalk
theorem pack_end{G:Gam}{l:List Ln}{os:List Sp}{v2:AV}(i:Nat)(hi:i=l.length) :
  headM G [5] Mc.q84_L0 1 [.blk 0,.seq (.seq (.reg [zm 102 3,zM 2 102]) .ret)] (pureQ Rs.q84 (.sl (spRows os)))
   [(0,.sl (lnRows l)),(2,v2),(3,oA 1 os),(4,.int .i64 i),(5,.junk)] (oH P3 3 Sp.row os):=by
 have hq:ltB (i:Int) (l.length:Int)=false:=ltB_not.2 (by omega)
 have ll:∀ H:Heap,lenAV H 1 (.sl (lnRows l))=some (.int .i64 (l.length:Int)):=fun H=>by simp [lenAV]
 have vw:=o_view (P:=P3) (n:=3) (e:=Sp.row) (L:=1) rfl os
 refine head_go (Mc.q84_L0.eq_1) ?_
 rw [trunc_same (n:=1) (h:=oH P3 3 Sp.row os) ?hh]
 case hh=>cases os with
  | nil=>exact .inl rfl
  | cons x r=>exact .inr (by simp [junkAll,lowFr,low,oA])
 generalize oA 1 os=oo at *
 generalize oH P3 3 Sp.row os=HH at *
 generalize lnRows l=RL at *
 simp [ll,hq,vw,pureQ,Rs.q84,spRows,-lenAV]
theorem pack_L0{G:Gam}(l:List Ln)(hl:l.length≤100000000000)(hn:∀ x∈l,0≤x.n∧x.n≤1000000)(v2:AV)(R:List Sp):∀ (rest:List Ln) (i:Nat) (os:List Sp),l.drop i=rest→i≤l.length→os.length≤i→
  ((os=[]∧R=packO rest)∨∃ dn cur,os=dn++[cur]∧0≤cur.t∧cur.t≤1000001∧R=dn++pckF cur rest)→
  headM G [5] Mc.q84_L0 1 [.blk 0,.seq (.seq (.reg [zm 102 3,zM 2 102]) .ret)] (pureQ Rs.q84 (.sl (spRows R)))
   [(0,.sl (lnRows l)),(2,v2),(3,oA 1 os),(4,.int .i64 i),(5,.junk)] (oH P3 3 Sp.row os)
 | [],i,os,hd,hi,ho,hR=>by
  have hi2:=drop_nil hd;have:R=os:=by
   rcases hR with ⟨rfl,h⟩ | ⟨dn,cur,rfl,_,_,h⟩
   ·simpa [packO] using h
   ·simpa [pckF] using h
  subst this;exact pack_end i (by omega)
 | x::rest,i,os,hd,hi,ho,hR=>by
  obtain ⟨hlt,hx,hxd⟩:=drop_cons hd;obtain ⟨n0,n1⟩:=hn x (List.mem_of_getElem? hx);have hq:ltB (i:Int) (l.length:Int)=true:=ltB_iff.2 (by omega);have hw:=wrap1 (i:=i) (by unfold big; omega);have ll:∀ H:Heap,lenAV H 1 (.sl (lnRows l))=some (.int .i64 (l.length:Int)):=fun H=>by simp [lenAV]
  have ia:=ia_ln hx;have l0:=ld_fln0 x;have l1:=ld_fln1 x;have wx:IntKind.i64.wrap (x.n+1)=x.n+1:=i64_in _ ⟨by omega,by omega⟩;have bd:∀ st h,opV G st h (.bld [.str [],.int .i64 0,.int .i64 0] [(0,1),(1,1),(2,1)]) (some [.str x.p,.int .i64 x.n,.int .i64 (x.n+1)])=some (.agg [.str x.p,.int .i64 x.n,.int .i64 (x.n+1)],h):=fun st h=>by rw [opV_quiet rfl]; rfl
  have bs:∀ st h,opV G st h (.bsl false 3) (some [.agg [.str x.p,.int .i64 x.n,.int .i64 (x.n+1)]])=some (.tsl [[.str x.p,.int .i64 x.n,.int .i64 (x.n+1)]],h):=fun st h=>by rw [op_bsl rfl]; rfl
  have ap:∀ st,opV G st (oH P3 3 Sp.row os) (.app false 3 32) (some [oA 1 os,.tsl [[.str x.p,.int .i64 x.n,.int .i64 (x.n+1)]]])=some (oA 1 (os++[⟨x.p,x.n,x.n+1⟩]),oH P3 3 Sp.row (os++[⟨x.p,x.n,x.n+1⟩])):=fun st=>o_app spn_len (by omega) rfl (by unfold big; omega) ⟨x.p,x.n,x.n+1⟩
  have hcut:∀ (os:List Sp) (a:AV),trunc 1 [(0,AV.sl (lnRows l)),(2,v2),(3,oA 1 os),(4,a),(5,.junk)] (oH P3 3 Sp.row os)=oH P3 3 Sp.row os:=fun os a=>by
   cases os with
   | nil=>exact trunc_same (.inl rfl)
   | cons x r=>exact trunc_same (.inr (by simp [lowFr,low,oA]))
  have next:=fun os' h1 h2=>pack_L0 (G:=G) l hl hn v2 R rest (i+1) os' hxd (by omega) h1 h2
  rcases hR with ⟨rfl,hR⟩ | ⟨dn,cur,rfl,t0,t1,hR⟩
  ·have wm:IntKind.i64.wrap (-1)=-1:=rfl
   have g0:ltB (-1) 0=true:=rfl;have ol:∀ H:Heap,lenAV H 1 (oA 1 ([]:List Sp))=some (.int .i64 0):=fun H=>o_len H
   have nx:=next [⟨x.p,x.n,x.n+1⟩] (by simp) (.inr ⟨[],⟨x.p,x.n,x.n+1⟩,rfl,by simp only; omega,by simp only; omega,by rw [hR,packO]; rfl⟩)
   have hc2:=hcut [⟨x.p,x.n,x.n+1⟩];have hc1:=hcut [];simp only [List.nil_append]at ap;refine head_go (Mc.q84_L0.eq_1) ?_
   rw [show junkAll [5] [(0,AV.sl (lnRows l)),(2,v2),(3,oA 1 ([]:List Sp)),(4,AV.int .i64 (i:Int)),(5,AV.junk)]=[(0,AV.sl (lnRows l)),(2,v2),(3,oA 1 []),(4,AV.int .i64 (i:Int)),(5,AV.junk)]from rfl,hc1];generalize oA 1 ([]:List Sp)=oo at *;generalize oH P3 3 Sp.row []=HH at *;generalize oA 1 [(⟨x.p,x.n,x.n+1⟩:Sp)]=oo2 at *;generalize oH P3 3 Sp.row [(⟨x.p,x.n,x.n+1⟩:Sp)]=HH2 at *;generalize lnRows l=RL at *;simp [ll,hq,ol,wm,g0,ia,l0,l1,wx,bd,bs,ap,hw,-lenAV,-loadAV,-op_bsl];refine head_of ?_
   simpa [junkAll,hc2,Rs.q84] using nx
  ·have hk:(dn++[cur]).length=dn.length+1:=by simp
   have wm:IntKind.i64.wrap (((dn.length+1:Nat):Int)-1)=(dn.length:Int):=by rw [i64_in _ ⟨by omega,by rw [hk]at ho; omega⟩]; omega
   have g0:ltB (dn.length:Int) 0=false:=ltB_not.2 (by omega);have ol:∀ H:Heap,lenAV H 1 (oA 1 (dn++[cur]))=some (.int .i64 ((dn.length+1:Nat):Int)):=fun H=>by rw [o_len,hk]
   have oi:=pk_ia (dn:=dn) (cur:=cur);have o0:=pk_ld (dn:=dn) (cur:=cur) 0 (.str cur.p) rfl;have o2:=pk_ld (dn:=dn) (cur:=cur) 2 (.int .i64 cur.t) rfl;have hc1:=hcut (dn++[cur]);refine head_go (Mc.q84_L0.eq_1) ?_
   rw [show junkAll [5] [(0,AV.sl (lnRows l)),(2,v2),(3,oA 1 (dn++[cur])),(4,AV.int .i64 (i:Int)),(5,AV.junk)]=[(0,AV.sl (lnRows l)),(2,v2),(3,oA 1 (dn++[cur])),(4,AV.int .i64 (i:Int)),(5,AV.junk)]from rfl,hc1];cases c1:(cur.p == x.p)with
   | false=>
    have hne:¬ cur.p=x.p:=by simpa using c1
    have hRR:R=(dn++[cur])++pckF ⟨x.p,x.n,x.n+1⟩ rest:=by
     rw [hR,pckF,if_neg (fun h=>hne h.1),if_neg (fun h=>hne h.1)]; simp
    have nx:=next (dn++[cur]++[⟨x.p,x.n,x.n+1⟩]) (by rw [List.length_append]; simp at ho ⊢; omega) (.inr ⟨dn++[cur],_,rfl,by simp only; omega,by simp only; omega,hRR⟩)
    have hc2:=hcut (dn++[cur]++[⟨x.p,x.n,x.n+1⟩]);generalize oA 1 (dn++[cur]++[(⟨x.p,x.n,x.n+1⟩:Sp)])=oo2 at *;generalize oH P3 3 Sp.row (dn++[cur]++[(⟨x.p,x.n,x.n+1⟩:Sp)])=HH2 at *;generalize oA 1 (dn++[cur])=oo at *;generalize oH P3 3 Sp.row (dn++[cur])=HH at *;generalize lnRows l=RL at *;generalize (dn.length+1)=K1 at *;simp [ll,hq,ol,wm,g0,oi,o0,ia,l0,l1,strBin,c1,wx,bd,bs,ap,hw,-lenAV,-loadAV,-op_bsl];refine head_of ?_
    simpa [junkAll,hc2,Rs.q84] using nx
   | true=>
    have he:cur.p=x.p:=by simpa using c1
    by_cases h1:x.n<cur.t
    ·have c2:ltB x.n cur.t=true:=ltB_iff.2 h1
     have nx:=next (dn++[cur]) (by simp at ho ⊢; omega) (.inr ⟨dn,cur,rfl,t0,t1,by rw [hR,pckF,if_pos ⟨he,h1⟩]⟩)
     generalize oA 1 (dn++[cur])=oo at *;generalize oH P3 3 Sp.row (dn++[cur])=HH at *;generalize lnRows l=RL at *;generalize (dn.length+1)=K1 at *;simp [ll,hq,ol,wm,g0,oi,o0,o2,ia,l0,l1,strBin,c1,c2,hw,-lenAV,-loadAV,-op_bsl];refine head_of ?_
     simpa [junkAll,hc1,Rs.q84] using nx
    ·have c2:ltB x.n cur.t=false:=ltB_not.2 (by omega)
     by_cases h2:x.n=cur.t
     ·have c3:eqB x.n cur.t=true:=eqB_iff.2 h2
      have wt:IntKind.i64.wrap (cur.t+1)=cur.t+1:=i64_in _ ⟨by omega,by omega⟩;have nx:=next (dn++[⟨cur.p,cur.f,cur.t+1⟩]) (by simp at ho ⊢; omega) (.inr ⟨dn,⟨cur.p,cur.f,cur.t+1⟩,rfl,by simp only; omega,by simp only; omega,by rw [hR,pckF,if_neg (fun h=>h1 h.2),if_pos ⟨he,h2⟩]⟩)
      have hc2:=hcut (dn++[⟨cur.p,cur.f,cur.t+1⟩]);have ps:=pk_st (G:=G) (st:=false) (dn:=dn) (cur:=cur) (cur.t+1);have eA:oA 1 (dn++[(⟨cur.p,cur.f,cur.t+1⟩:Sp)])=oA 1 (dn++[cur]):=by rw [oA_snoc,oA_snoc]
      rw [eA]at nx hc2;generalize oA 1 (dn++[cur])=oo at *;generalize oH P3 3 Sp.row (dn++[cur])=HH at *;generalize oH P3 3 Sp.row (dn++[(⟨cur.p,cur.f,cur.t+1⟩:Sp)])=HH2 at *;generalize lnRows l=RL at *;generalize (dn.length+1)=K1 at *;simp [ll,hq,ol,wm,g0,oi,o0,o2,ia,l0,l1,strBin,c1,c2,c3,wt,ps,hw,-lenAV,-loadAV,-op_bsl,-op_st];refine head_of ?_
      simpa [junkAll,hc2,Rs.q84] using nx
     ·have c3:eqB x.n cur.t=false:=eqB_not.2 h2
      have hRR:R=(dn++[cur])++pckF ⟨x.p,x.n,x.n+1⟩ rest:=by
       rw [hR,pckF,if_neg (fun h=>h1 h.2),if_neg (fun h=>h2 h.2)]; simp
      have nx:=next (dn++[cur]++[⟨x.p,x.n,x.n+1⟩]) (by rw [List.length_append]; simp at ho ⊢; omega) (.inr ⟨dn++[cur],_,rfl,by simp only; omega,by simp only; omega,hRR⟩)
      have hc2:=hcut (dn++[cur]++[⟨x.p,x.n,x.n+1⟩]);generalize oA 1 (dn++[cur]++[(⟨x.p,x.n,x.n+1⟩:Sp)])=oo2 at *;generalize oH P3 3 Sp.row (dn++[cur]++[(⟨x.p,x.n,x.n+1⟩:Sp)])=HH2 at *;generalize oA 1 (dn++[cur])=oo at *;generalize oH P3 3 Sp.row (dn++[cur])=HH at *;generalize lnRows l=RL at *;generalize (dn.length+1)=K1 at *;simp [ll,hq,ol,wm,g0,oi,o0,o2,ia,l0,l1,strBin,c1,c2,c3,wx,bd,bs,ap,hw,-lenAV,-loadAV,-op_bsl];refine head_of ?_
      simpa [junkAll,hc2,Rs.q84] using nx
theorem rPack_ok{G:Gam}:∀ args r,F_rPack args=some r→wpM G Mc.q84 (pureQ Rs.q84 r) [] (frInit Ks.q84 args) []:=by
 intro args r hF
 unfold F_rPack at hF
 split at hF
 ·split at hF
  ·rename_i l hd
   split at hF
   ·rename_i hok
    injection hF with hF; subst hF
    obtain rfl:=lnRows_of hd;have b0:∀ st h,opV G st h (.bsl false 3) (some [])=some (.tsl [],h):=fun st h=>by rw [op_bsl rfl]; rfl
    have hn:∀ x∈l,0≤x.n∧x.n≤1000000:=fun x hx=>by have:=List.all_eq_true.1 hok.2 x hx; simpa using this
    have L0:=pack_L0 (G:=G) l (by simpa [okN] using hok.1) hn (.own 0 0 0) (packO l) l 0 [] rfl (by omega) (by simp) (.inl ⟨rfl,rfl⟩);rw [wpM_go];simp [Mc.q84,Ks.q84,frInit,b0,-op_bsl];simpa [oA,oH] using L0
   ·cases hF
  ·cases hF
 ·cases hF
def F_rJoin:List AV→Option AV
 | [.sl ra,.sl rb]=>match decAll decSpn ra,decAll decSpn rb with
  | some a,some b=>if (okL a=true∧validO a=true)∧okL b=true∧validO b=true then some (.sl (spRows (joinO a b)))else none
  | _,_=>none
 | _=>none
theorem listO_n{l:List Sp}(h:∀ s∈l,spanO s=true):∀ x∈listO l,0≤x.n∧x.n≤1000000:=fun x hx=>by
 obtain ⟨s,hs,hi⟩:=hasO_iff.1 (mem_listO.1 hx)
 have h1:=(spanO_iff.1 (h s hs)).1
 have h2:=inS_iff.1 hi
 omega
theorem rJoin_ok{G:Gam}(hL:G Fn.q85=some (.pure F_rList))(hM:G Fn.q76=some (.pure F_rmerge))(hP:G Fn.q84=some (.pure F_rPack)):∀ args r,F_rJoin args=some r→
  wpM G Mc.q81 (pureQ Rs.q81 r) [] (frInit Ks.q81 args) []:=by
 intro args r hF
 unfold F_rJoin at hF
 split at hF
 ·split at hF
  ·rename_i a b hda hdb
   split at hF
   ·rename_i hok
    injection hF with hF; subst hF
    obtain rfl:=spRows_of hda;obtain rfl:=spRows_of hdb;obtain ⟨⟨a1,a2⟩,b1,b2⟩:=hok;have sa:=(valid_iff.1 a2).1;have sb:=(valid_iff.1 b2).1;have la:=use_rList hL a1 a2;have lb:=use_rList hL b1 b2;have na:=listO_len sa;have nb:=listO_len sb;have ka:=(okL_of a1).1;have kb:=(okL_of b1).1;have cm:=use_rmerge hM (a:=listO a) (b:=listO b) (by simp [okN]; omega) (by simp [okN]; omega);have hml:∀ x y:List Ln,(meltO x y).length=x.length+y.length:=fun x y=>by
     fun_induction meltO x y <;> simp_all <;> omega
    have hall:((meltO (listO a) (listO b)).all fun x=>decide (0≤x.n)&&decide (x.n≤1000000))=true:=by
     rw [List.all_eq_true];intro x hx;have:0≤x.n∧x.n≤1000000:=by
      rcases (meltO_mem _ _ _).1 hx with h | h
      ·exact listO_n sa x h
      ·exact listO_n sb x h
     simpa using this
    have hok2:okN (meltO (listO a) (listO b))=true:=by simp [okN,hml]; omega
    have cp:∀ st H,opV G st H (.call Fn.q84) (some [.sl (lnRows (meltO (listO a) (listO b)))])=some (.sl (spRows (joinO a b)),H):=fun st H=>
     op_call hP (us:=[.sl (lnRows (meltO (listO a) (listO b)))]) rfl (by
      simp only [F_rPack,dec_lnRows,hok2,hall,and_self,if_true,joinO]) (.inr rfl)
    rw [wpM_go];generalize lnRows (meltO (listO a) (listO b))=RM at *;generalize lnRows (listO a)=LA at *;generalize lnRows (listO b)=LB at *;generalize spRows (joinO a b)=RJ at *;generalize spRows a=RA at *;generalize spRows b=RB at *;simp [Mc.q81,Ks.q81,frInit,la,lb,cm,cp,pureQ,Rs.q81]
   ·cases hF
  ·cases hF
 ·cases hF
theorem use_rJoin{G:Gam}(h:G Fn.q81=some (.pure F_rJoin)){a b:List Sp}(h1:okL a=true)(h2:validO a=true)(h3:okL b=true)(h4:validO b=true)(st:Bool)(H:Heap):opV G st H (.call Fn.q81) (some [.sl (spRows a),.sl (spRows b)])=some (.sl (spRows (joinO a b)),H):=
 op_call h (us:=[.sl (spRows a),.sl (spRows b)]) rfl (by simp only [F_rJoin,dec_spRows]; rw [if_pos ⟨⟨h1,h2⟩,h3,h4⟩]) (.inr rfl)
end Go.Proofs.YtbfcbkjemlgnpaaGreatDoor
namespace Go.Proofs.YtbfcbkjemlgnpaaGreatDoor
open Go.RowKit Go.IntWalk
theorem oThr_ok{G:Gam}(hV:G Fn.q109=some (.pure F_oValid))(hU:G Fn.q110=some (.pure F_oUnion)):∀ args r,F_oThr args=some r→wpM G Mc.q89 (pureQ Rs.q89 r) [] (frInit Ks.q89 args) []:=by
 intro args r hF
 unfold F_oThr at hF
 split at hF
 ·rename_i ca rt
  split at hF
  ·rename_i a ha
   split at hF
   ·rename_i hok
    injection hF with hF; subst hF
    obtain rfl:=decOrg_of ha;obtain ⟨a1,a2,a3,a4⟩:=smO_of hok;have ob:=fun st=>box_org (G:=G) a st []
    have la:∀ x:Blk,loadAV 3 true [.cells a.cells,x] (.ptr 0 0)=some (.agg a.cells):=fun x=>ldOrg _ rfl
    have pa0:∀ tl:Heap,loadAV 1 false (.cells a.cells::tl) (.ptr 0 0)=some (.sl (spRows a.inn)):=fun tl=>ld_cell (l:=0) rfl rfl
    have pa1:∀ tl:Heap,loadAV 1 false (.cells a.cells::tl) (.ptr 0 1)=some (.sl (spRows a.by_)):=fun tl=>ld_cell (l:=0) rfl rfl
    have pa2:∀ tl:Heap,loadAV 1 false (.cells a.cells::tl) (.ptr 0 2)=some (.sl (spRows a.lst)):=fun tl=>ld_cell (l:=0) rfl rfl
    have va:=use_oValid hV a1;have bs1:∀ (x:List (List AV)) st h,opV G st h (.bsl false 1) (some [.sl x])=some (.tsl [[.sl x]],h):=fun x st h=>by rw [op_bsl rfl]; rfl
    have bs2:∀ (x y:List (List AV)) st h,opV G st h (.bsl false 1) (some [.sl x,.sl y])=some (.tsl [[.sl x],[.sl y]],h):=fun x y st h=>by rw [op_bsl rfl]; rfl
    have bs3:∀ (x y z:List (List AV)) st h,opV G st h (.bsl false 1) (some [.sl x,.sl y,.sl z])=some (.tsl [[.sl x],[.sl y],[.sl z]],h):=fun x y z st h=>by rw [op_bsl rfl]; rfl
    rw [wpM_go];simp at ob;cases ca:oValid a with
    | false=>
     rw [ca]at va;have e:thrE a rt=(oNil,1):=by simp [thrE,ca]
     rw [e,nilCells];generalize a.cells=CA at *;simp [Mc.q89,Ks.q89,frInit,ob,la,va,bldAV,pureQ,Rs.q89,-loadAV];simp [loadAV,cut,mkVal]
    | true=>
     rw [ca]at va;obtain ⟨x1,x2,x3⟩:=oValid_of ca;by_cases r1:rt=1
     ·subst r1
      obtain ⟨b,hb⟩:∃ b:Org,b=a:=⟨_,rfl⟩
      have e:thrE a 1=(b,0):=by rw [hb]; simp [thrE,ca,becE]
      have eb:b.cells=[AV.sl (spRows a.inn),.sl (spRows a.by_),.sl (spRows a.lst)]:=by rw [hb]; rfl
      have q1:eqB 1 1=true:=rfl;have u1:=use_oUnion hU (L:=[a.inn]) (by simp [x1]) (by simp [sumL]; omega) (by simp);have u2:=use_oUnion hU (L:=[a.by_]) (by simp [x2]) (by simp [sumL]; omega) (by simp);have u3:=use_oUnion hU (L:=[a.lst]) (by simp [x3]) (by simp [sumL]; omega) (by simp);rw [joinL_one x1]at u1;rw [joinL_one x2]at u2;rw [joinL_one x3]at u3;simp only [List.map_cons,List.map_nil,setRow]at u1 u2 u3;rw [e,eb];clear e eb hb;generalize a.cells=CA at *;generalize spRows a.inn=R1 at *;generalize spRows a.by_=R2 at *;generalize spRows a.lst=R3 at *;simp [Mc.q89,Ks.q89,frInit,ob,la,pa0,pa1,pa2,va,bs1,u1,u2,u3,bldAV,pureQ,Rs.q89,-loadAV,-op_bsl];simp [loadAV,cut,mkVal]
     ·have q1:eqB rt 1=false:=eqB_not.2 r1
      by_cases r2:rt=2
      ·subst r2
       have e:thrE a 2=(⟨[],linE a,[]⟩,0):=by simp [thrE,ca,becE]
       have q2:eqB 2 2=true:=rfl;have u1:=use_oUnion hU (L:=[a.inn,a.by_,a.lst]) (by simp [x1,x2,x3]) (by simp [sumL]; omega) (by simp);rw [joinL_three x1 x2 x3]at u1;simp only [List.map_cons,List.map_nil,setRow]at u1;rw [e];simp only [Org.cells,linE,show spRows []=[]from rfl];rw [show [AV.sl (spRows a.inn),.sl (spRows a.by_),.sl (spRows a.lst)]=a.cells from rfl];generalize a.cells=CA at *;generalize spRows (joinO a.inn (joinO a.by_ a.lst))=R1 at *;simp [Mc.q89,Ks.q89,frInit,ob,la,pa0,pa1,pa2,va,q1,bs3,u1,bldAV,pureQ,Rs.q89,-loadAV,-op_bsl];simp [loadAV,cut,mkVal]
      ·have q2:eqB rt 2=false:=eqB_not.2 r2
       by_cases r3:rt=3
       ·subst r3
        have e:thrE a 3=(⟨[],a.by_,joinO a.inn a.lst⟩,0):=by simp [thrE,ca,becE]
        have q3:eqB 3 3=true:=rfl;have u1:=use_oUnion hU (L:=[a.by_]) (by simp [x2]) (by simp [sumL]; omega) (by simp);have u2:=use_oUnion hU (L:=[a.inn,a.lst]) (by simp [x1,x3]) (by simp [sumL]; omega) (by simp);rw [joinL_one x2]at u1;rw [joinL_two x1 x3]at u2;simp only [List.map_cons,List.map_nil,setRow]at u1 u2;rw [e];simp only [Org.cells,show spRows []=[]from rfl];rw [show [AV.sl (spRows a.inn),.sl (spRows a.by_),.sl (spRows a.lst)]=a.cells from rfl];generalize a.cells=CA at *;generalize spRows (joinO a.inn a.lst)=R1 at *;generalize spRows a.by_=R2 at *;simp [Mc.q89,Ks.q89,frInit,ob,la,pa0,pa1,pa2,va,q1,q2,bs1,bs2,u1,u2,bldAV,pureQ,Rs.q89,-loadAV,-op_bsl];simp [loadAV,cut,mkVal]
       ·have q3:eqB rt 3=false:=eqB_not.2 r3
        have e:thrE a rt=(oNil,3):=by
         simp only [thrE,ca,if_true];rw [if_pos (by omega)]
        rw [e,nilCells];generalize a.cells=CA at *;simp [Mc.q89,Ks.q89,frInit,ob,la,va,q1,q2,q3,bldAV,pureQ,Rs.q89,-loadAV];simp [loadAV,cut,mkVal]
   ·cases hF
  ·cases hF
 ·cases hF
theorem oAll_ok{G:Gam}(hV:G Fn.q109=some (.pure F_oValid))(hU:G Fn.q110=some (.pure F_oUnion)):∀ args r,F_oAll args=some r→wpM G Mc.origin_All (pureQ Rs.origin_All r) [] (frInit Ks.origin_All args) []:=by
 intro args r hF
 unfold F_oAll at hF
 split at hF
 ·rename_i ca
  split at hF
  ·rename_i a ha
   split at hF
   ·rename_i hok
    injection hF with hF; subst hF
    obtain rfl:=decOrg_of ha;obtain ⟨a1,a2,a3,a4⟩:=smO_of hok;have ob:=fun st=>box_org (G:=G) a st []
    have la:∀ x:Blk,loadAV 3 true [.cells a.cells,x] (.ptr 0 0)=some (.agg a.cells):=fun x=>ldOrg _ rfl
    have pa0:∀ tl:Heap,loadAV 1 false (.cells a.cells::tl) (.ptr 0 0)=some (.sl (spRows a.inn)):=fun tl=>ld_cell (l:=0) rfl rfl
    have pa1:∀ tl:Heap,loadAV 1 false (.cells a.cells::tl) (.ptr 0 1)=some (.sl (spRows a.by_)):=fun tl=>ld_cell (l:=0) rfl rfl
    have pa2:∀ tl:Heap,loadAV 1 false (.cells a.cells::tl) (.ptr 0 2)=some (.sl (spRows a.lst)):=fun tl=>ld_cell (l:=0) rfl rfl
    have va:=use_oValid hV a1;have bs3:∀ (x y z:List (List AV)) st h,opV G st h (.bsl false 1) (some [.sl x,.sl y,.sl z])=some (.tsl [[.sl x],[.sl y],[.sl z]],h):=fun x y z st h=>by rw [op_bsl rfl]; rfl
    rw [wpM_go];simp at ob;cases ca:oValid a with
    | false=>
     rw [ca]at va;have e:allE a=([],1):=by simp [allE,ca]
     have ro:rowsOf [Blk.cells a.cells,Blk.arr 3 0 [] true,Blk.arr 3 0 [] true] (.own 2 0 0)=some []:=rfl;rw [e];generalize a.cells=CA at *;simp [Mc.origin_All,Ks.origin_All,frInit,ob,la,va,ro,spRows,pureQ,Rs.origin_All,-loadAV]
    | true=>
     rw [ca]at va;obtain ⟨x1,x2,x3⟩:=oValid_of ca;have e:allE a=(linE a,0):=by simp [allE,ca]
     have u1:=use_oUnion hU (L:=[a.inn,a.by_,a.lst]) (by simp [x1,x2,x3]) (by simp [sumL]; omega) (by simp);rw [joinL_three x1 x2 x3]at u1;simp only [List.map_cons,List.map_nil,setRow]at u1;rw [e];simp only [linE];generalize a.cells=CA at *;generalize spRows (joinO a.inn (joinO a.by_ a.lst))=R1 at *;simp [Mc.origin_All,Ks.origin_All,frInit,ob,la,pa0,pa1,pa2,va,bs3,u1,pureQ,Rs.origin_All,-loadAV,-op_bsl]
   ·cases hF
  ·cases hF
 ·cases hF
end Go.Proofs.YtbfcbkjemlgnpaaGreatDoor
namespace Go.Proofs.YtbfcbkjemlgnpaaGreatDoor
open Go.RowKit Go.IntWalk
def F_rJoinO:List AV→Option AV
 | [.agg ca,.agg cb]=>match decOrg ca,decOrg cb with
  | some a,some b=>if (smO a=true∧oValid a=true)∧smO b=true∧oValid b=true then some (.agg [.sl (spRows (joinO a.inn b.inn)),.sl (spRows (joinO a.by_ b.by_)),.sl (spRows (joinO a.lst b.lst))])else none
  | _,_=>none
 | _=>none
def F_rLines:List AV→Option AV
 | [.agg ca]=>match decOrg ca with
  | some a=>if smO a=true∧oValid a=true then some (.sl (spRows (linE a)))else none
  | _=>none
 | _=>none
def F_rBec:List AV→Option AV
 | [.agg ca,.int .i64 r]=>match decOrg ca with
  | some a=>if smO a=true∧oValid a=true then some (.agg (becE a r).cells)else none
  | _=>none
 | _=>none
theorem rJoinO_ok{G:Gam}(hJ:G Fn.q81=some (.pure F_rJoin)):∀ args r,F_rJoinO args=some r→wpM G Mc.q79 (pureQ Rs.q79 r) [] (frInit Ks.q79 args) []:=by
 intro args r hF
 unfold F_rJoinO at hF
 split at hF
 ·split at hF
  ·rename_i ca cb a b ha hb
   split at hF
   ·rename_i hok
    injection hF with hF; subst hF
    obtain rfl:=decOrg_of ha;obtain rfl:=decOrg_of hb;obtain ⟨⟨sa,va⟩,sb,vb⟩:=hok;obtain ⟨a1,a2,a3,a4⟩:=smO_of sa;obtain ⟨b1,b2,b3,b4⟩:=smO_of sb;obtain ⟨k1,k2,k3⟩:=okO_of a1;obtain ⟨m1,m2,m3⟩:=okO_of b1;obtain ⟨x1,x2,x3⟩:=oValid_of va;obtain ⟨y1,y2,y3⟩:=oValid_of vb;have ob:=fun st=>box_org (G:=G) a st []
    have ob2:=fun st=>box_org (G:=G) b st [.cells a.cells]
    have pa0:∀ tl:Heap,loadAV 1 false (.cells a.cells::tl) (.ptr 0 0)=some (.sl (spRows a.inn)):=fun tl=>ld_cell (l:=0) rfl rfl
    have pa1:∀ tl:Heap,loadAV 1 false (.cells a.cells::tl) (.ptr 0 1)=some (.sl (spRows a.by_)):=fun tl=>ld_cell (l:=0) rfl rfl
    have pa2:∀ tl:Heap,loadAV 1 false (.cells a.cells::tl) (.ptr 0 2)=some (.sl (spRows a.lst)):=fun tl=>ld_cell (l:=0) rfl rfl
    have pb0:∀ tl:Heap,loadAV 1 false (.cells a.cells::.cells b.cells::tl) (.ptr 1 0)=some (.sl (spRows b.inn)):=fun tl=>ld_cell (l:=1) rfl rfl
    have pb1:∀ tl:Heap,loadAV 1 false (.cells a.cells::.cells b.cells::tl) (.ptr 1 1)=some (.sl (spRows b.by_)):=fun tl=>ld_cell (l:=1) rfl rfl
    have pb2:∀ tl:Heap,loadAV 1 false (.cells a.cells::.cells b.cells::tl) (.ptr 1 2)=some (.sl (spRows b.lst)):=fun tl=>ld_cell (l:=1) rfl rfl
    have j1:=use_rJoin hJ k1 x1 m1 y1;have j2:=use_rJoin hJ k2 x2 m2 y2;have j3:=use_rJoin hJ k3 x3 m3 y3;rw [wpM_go];simp at ob ob2;generalize a.cells=CA at *;generalize b.cells=CB at *;generalize spRows (joinO a.inn b.inn)=R1 at *;generalize spRows (joinO a.by_ b.by_)=R2 at *;generalize spRows (joinO a.lst b.lst)=R3 at *;simp [Mc.q79,Ks.q79,frInit,ob,ob2,pa0,pa1,pa2,pb0,pb1,pb2,j1,j2,j3,bldAV,pureQ,Rs.q79,-loadAV];simp [loadAV,cut,mkVal]
   ·cases hF
  ·cases hF
 ·cases hF
theorem rLines_ok{G:Gam}(hJ:G Fn.q81=some (.pure F_rJoin)):∀ args r,F_rLines args=some r→wpM G Mc.q73 (pureQ Rs.q73 r) [] (frInit Ks.q73 args) []:=by
 intro args r hF
 unfold F_rLines at hF
 split at hF
 ·split at hF
  ·rename_i ca a ha
   split at hF
   ·rename_i hok
    injection hF with hF; subst hF
    obtain rfl:=decOrg_of ha;obtain ⟨sa,va⟩:=hok;obtain ⟨a1,a2,a3,a4⟩:=smO_of sa;obtain ⟨k1,k2,k3⟩:=okO_of a1;obtain ⟨x1,x2,x3⟩:=oValid_of va;have ob:=fun st=>box_org (G:=G) a st []
    have pa0:∀ tl:Heap,loadAV 1 false (.cells a.cells::tl) (.ptr 0 0)=some (.sl (spRows a.inn)):=fun tl=>ld_cell (l:=0) rfl rfl
    have pa1:∀ tl:Heap,loadAV 1 false (.cells a.cells::tl) (.ptr 0 1)=some (.sl (spRows a.by_)):=fun tl=>ld_cell (l:=0) rfl rfl
    have pa2:∀ tl:Heap,loadAV 1 false (.cells a.cells::tl) (.ptr 0 2)=some (.sl (spRows a.lst)):=fun tl=>ld_cell (l:=0) rfl rfl
    have jv:=(join_valid x2 x3).1;have jl:=join_len x2 x3;have j1:=use_rJoin hJ k2 x2 k3 x3;have j2:=use_rJoin hJ k1 x1 (valid_ok jv (by omega)) jv;rw [wpM_go];simp at ob;unfold linE;generalize a.cells=CA at *;generalize spRows (joinO a.inn (joinO a.by_ a.lst))=R1 at *;generalize spRows (joinO a.by_ a.lst)=R2 at *;simp [Mc.q73,Ks.q73,frInit,ob,pa0,pa1,pa2,j1,j2,pureQ,Rs.q73,-loadAV]
   ·cases hF
  ·cases hF
 ·cases hF
theorem use_rLines{G:Gam}(h:G Fn.q73=some (.pure F_rLines)){a:Org}(h1:smO a=true)(h2:oValid a=true)(st:Bool)(H:Heap):opV G st H (.call Fn.q73) (some [.agg a.cells])=some (.sl (spRows (linE a)),H):=
 op_call h (us:=[.agg a.cells]) (by simp [Org.cells,viewL,view]) (by simp only [F_rLines,decOrg_cells]; rw [if_pos ⟨h1,h2⟩]) (.inr rfl)
theorem rBec_ok{G:Gam}(hJ:G Fn.q81=some (.pure F_rJoin))(hL:G Fn.q73=some (.pure F_rLines)):∀ args r,F_rBec args=some r→wpM G Mc.q63 (pureQ Rs.q63 r) [] (frInit Ks.q63 args) []:=by
 intro args r hF
 unfold F_rBec at hF
 split at hF
 ·rename_i ca rt
  split at hF
  ·rename_i a ha
   split at hF
   ·rename_i hok
    injection hF with hF; subst hF
    obtain rfl:=decOrg_of ha;obtain ⟨sa,va⟩:=hok;obtain ⟨a1,a2,a3,a4⟩:=smO_of sa;obtain ⟨k1,k2,k3⟩:=okO_of a1;obtain ⟨x1,x2,x3⟩:=oValid_of va;have ob:=fun st=>box_org (G:=G) a st []
    have la:∀ x:Blk,loadAV 3 true [.cells a.cells,x] (.ptr 0 0)=some (.agg a.cells):=fun x=>ldOrg _ rfl
    have pa0:∀ tl:Heap,loadAV 1 false (.cells a.cells::tl) (.ptr 0 0)=some (.sl (spRows a.inn)):=fun tl=>ld_cell (l:=0) rfl rfl
    have pa1:∀ tl:Heap,loadAV 1 false (.cells a.cells::tl) (.ptr 0 1)=some (.sl (spRows a.by_)):=fun tl=>ld_cell (l:=0) rfl rfl
    have pa2:∀ tl:Heap,loadAV 1 false (.cells a.cells::tl) (.ptr 0 2)=some (.sl (spRows a.lst)):=fun tl=>ld_cell (l:=0) rfl rfl
    have cl:=use_rLines hL sa va;have cj:=use_rJoin hJ k1 x1 k3 x3;rw [wpM_go];simp at ob;by_cases r2:rt=2
    ·subst r2
     have e:(becE a 2).cells=[.sl [],.sl (spRows (linE a)),.sl []]:=rfl;have q2:eqB 2 2=true:=rfl;rw [e];generalize a.cells=CA at *;generalize spRows (linE a)=R1 at *;simp [Mc.q63,Ks.q63,frInit,ob,la,cl,bldAV,pureQ,Rs.q63,-loadAV];simp [loadAV,cut,mkVal]
    ·have q2:eqB rt 2=false:=eqB_not.2 r2
     by_cases r3:rt=3
     ·subst r3
      have e:(becE a 3).cells=[.sl [],.sl (spRows a.by_),.sl (spRows (joinO a.inn a.lst))]:=rfl;have q3:eqB 3 3=true:=rfl;rw [e];generalize a.cells=CA at *;generalize spRows (joinO a.inn a.lst)=R1 at *;generalize spRows a.by_=R2 at *;simp [Mc.q63,Ks.q63,frInit,ob,pa0,pa1,pa2,q2,cj,bldAV,pureQ,Rs.q63,-loadAV];simp [loadAV,cut,mkVal]
     ·have q3:eqB rt 3=false:=eqB_not.2 r3
      have e:(becE a rt).cells=a.cells:=by unfold becE; rw [if_neg r2,if_neg r3]
      rw [e];have e1:∀ tl:Heap,stAV 3 (.cells a.cells::.cells [.nils,.nils,.nils]::tl) (.ptr 1 0) (.agg a.cells)=some (.cells a.cells::.cells a.cells::tl):=fun tl=>by simp [Org.cells,AV.cells,oneC,setAt]
      have l1:∀ tl:Heap,loadAV 3 true (.cells a.cells::.cells a.cells::tl) (.ptr 1 0)=some (.agg a.cells):=fun tl=>ldOrg _ rfl
      have vw:∀ H,viewL H a.cells=some a.cells:=fun H=>by simp [view,viewL,Org.cells]
      generalize a.cells=CA at *;simp [Mc.q63,Ks.q63,frInit,ob,la,q2,q3,e1,pureQ,Rs.q63,-loadAV,-stAV_ptr];simp [l1,vw,-loadAV]
   ·cases hF
  ·cases hF
 ·cases hF
theorem orgAgg(H:Heap)(o:Org):viewL H [AV.agg o.cells]=some [.agg o.cells]:=by simp [Org.cells,viewL,view]
theorem rUnO_ok{G:Gam}(hV:G Fn.q72=some (.pure F_oValid))(hJ:G Fn.q79=some (.pure F_rJoinO)):∀ args r,F_oUn args=some r→wpM G Mc.q71 (pureQ Rs.q71 r) [] (frInit Ks.q71 args) []:=by
 intro args r hF
 unfold F_oUn at hF
 split at hF
 ·split at hF
  ·rename_i ca cb a b ha hb
   split at hF
   ·rename_i hok
    injection hF with hF; subst hF
    obtain rfl:=decOrg_of ha;obtain rfl:=decOrg_of hb;obtain ⟨a1,a2,a3,a4⟩:=smO_of hok.1;obtain ⟨b1,b2,b3,b4⟩:=smO_of hok.2;have ob:=fun st=>box_org (G:=G) a st []
    have ob2:=fun st=>box_org (G:=G) b st [.cells a.cells]
    have la:∀ x y:Blk,loadAV 3 true [.cells a.cells,x,y] (.ptr 0 0)=some (.agg a.cells):=fun x y=>ldOrg _ rfl
    have lb:∀ y:Blk,loadAV 3 true [.cells a.cells,.cells b.cells,y] (.ptr 1 0)=some (.agg b.cells):=fun y=>ldOrg _ rfl
    have va:=use_oValid hV a1;have vb:=use_oValid hV b1;rw [wpM_go];simp at ob ob2;cases ca:oValid a with
    | false=>
     rw [ca]at va;have e:unE a b=(oNil,1):=by simp [unE,ca]
     rw [e,nilCells];generalize a.cells=CA at *;generalize b.cells=CB at *;simp [Mc.q71,Ks.q71,frInit,ob,ob2,la,va,bldAV,pureQ,Rs.q71,-loadAV];simp [loadAV,cut,mkVal]
    | true=>
     rw [ca]at va;cases cb:oValid b with
     | false=>
      rw [cb]at vb;have e:unE a b=(oNil,1):=by simp [unE,cb]
      rw [e,nilCells];generalize a.cells=CA at *;generalize b.cells=CB at *;simp [Mc.q71,Ks.q71,frInit,ob,ob2,la,lb,va,vb,bldAV,pureQ,Rs.q71,-loadAV];simp [loadAV,cut,mkVal]
     | true=>
      rw [cb]at vb;have e:unE a b=(⟨joinO a.inn b.inn,joinO a.by_ b.by_,joinO a.lst b.lst⟩,0):=by simp [unE,ca,cb]
      have cj:∀ st H,opV G st H (.call Fn.q79) (some [.agg a.cells,.agg b.cells])=some (.agg [.sl (spRows (joinO a.inn b.inn)),.sl (spRows (joinO a.by_ b.by_)),.sl (spRows (joinO a.lst b.lst))],H):=fun st H=>
       op_call hJ (us:=[.agg a.cells,.agg b.cells]) (by simp [Org.cells,viewL,view]) (by simp only [F_rJoinO,decOrg_cells]; rw [if_pos ⟨⟨hok.1,ca⟩,hok.2,cb⟩]) (.inr (by simp [ownsL,owns,Org.cells]))
      rw [e];rw [show (⟨joinO a.inn b.inn,joinO a.by_ b.by_,joinO a.lst b.lst⟩:Org).cells=[.sl (spRows (joinO a.inn b.inn)),.sl (spRows (joinO a.by_ b.by_)),.sl (spRows (joinO a.lst b.lst))]from rfl];generalize a.cells=CA at *;generalize b.cells=CB at *;generalize spRows (joinO a.inn b.inn)=R1 at *;generalize spRows (joinO a.by_ b.by_)=R2 at *;generalize spRows (joinO a.lst b.lst)=R3 at *;simp [Mc.q71,Ks.q71,frInit,ob,ob2,la,lb,va,vb,cj,pureQ,Rs.q71,-loadAV];simp [loadAV,cut,mkVal]
   ·cases hF
  ·cases hF
 ·cases hF
theorem rThr_ok{G:Gam}(hV:G Fn.q72=some (.pure F_oValid))(hB:G Fn.q63=some (.pure F_rBec)):∀ args r,F_oThr args=some r→wpM G Mc.q60 (pureQ Rs.q60 r) [] (frInit Ks.q60 args) []:=by
 intro args r hF
 unfold F_oThr at hF
 split at hF
 ·rename_i ca rt
  split at hF
  ·rename_i a ha
   split at hF
   ·rename_i hok
    injection hF with hF; subst hF
    obtain rfl:=decOrg_of ha;obtain ⟨a1,a2,a3,a4⟩:=smO_of hok;have ob:=fun st=>box_org (G:=G) a st []
    have la:∀ x:Blk,loadAV 3 true [.cells a.cells,x] (.ptr 0 0)=some (.agg a.cells):=fun x=>ldOrg _ rfl
    have va:=use_oValid hV a1;rw [wpM_go];simp at ob;cases ca:oValid a with
    | false=>
     rw [ca]at va;have e:thrE a rt=(oNil,1):=by simp [thrE,ca]
     rw [e,nilCells];generalize a.cells=CA at *;simp [Mc.q60,Ks.q60,frInit,ob,la,va,bldAV,pureQ,Rs.q60,-loadAV];simp [loadAV,cut,mkVal]
    | true=>
     rw [ca]at va;by_cases hr:rt<1∨3<rt
     ·have e:thrE a rt=(oNil,3):=by simp only [thrE,ca,if_true]; rw [if_pos hr]
      rw [e,nilCells];generalize a.cells=CA at *;by_cases h1:rt<1
      ·have q1:ltB rt 1=true:=ltB_iff.2 h1
       simp [Mc.q60,Ks.q60,frInit,ob,la,va,q1,bldAV,pureQ,Rs.q60,-loadAV];simp [loadAV,cut,mkVal]
      ·have q1:ltB rt 1=false:=ltB_not.2 (by omega)
       have q2:ltB 3 rt=true:=ltB_iff.2 (by omega);simp [Mc.q60,Ks.q60,frInit,ob,la,va,q1,q2,bldAV,pureQ,Rs.q60,-loadAV];simp [loadAV,cut,mkVal]
     ·have e:thrE a rt=(becE a rt,0):=by simp only [thrE,ca,if_true]; rw [if_neg hr]
      have q1:ltB rt 1=false:=ltB_not.2 (by omega);have q2:ltB 3 rt=false:=ltB_not.2 (by omega);have cj:∀ st H,opV G st H (.call Fn.q63) (some [.agg a.cells,.int .i64 rt])=some (.agg (becE a rt).cells,H):=fun st H=>
       op_call hB (us:=[.agg a.cells,.int .i64 rt]) (by simp [Org.cells,viewL,view]) (by simp only [F_rBec,decOrg_cells]; rw [if_pos ⟨hok,ca⟩]) (.inr (by simp [ownsL,owns,Org.cells]))
      rw [e];obtain ⟨b,hb⟩:∃ b:Org,b=becE a rt:=⟨_,rfl⟩
      rw [← hb]at cj ⊢;have e1:∀ tl:Heap,stAV 3 (.cells a.cells::.cells [.nils,.nils,.nils]::tl) (.ptr 1 0) (.agg b.cells)=some (.cells a.cells::.cells b.cells::tl):=fun tl=>by simp [Org.cells,AV.cells,oneC,setAt]
      have l1:∀ tl:Heap,loadAV 3 true (.cells a.cells::.cells b.cells::tl) (.ptr 1 0)=some (.agg b.cells):=fun tl=>ldOrg _ rfl
      have vw:∀ H,viewL H b.cells=some b.cells:=fun H=>by simp [view,viewL,Org.cells]
      generalize a.cells=CA at *;generalize b.cells=CB at *;simp [Mc.q60,Ks.q60,frInit,ob,la,va,q1,q2,cj,e1,pureQ,Rs.q60,-loadAV,-stAV_ptr];simp [l1,vw,-loadAV]
   ·cases hF
  ·cases hF
 ·cases hF
theorem rAll_ok{G:Gam}(hV:G Fn.q72=some (.pure F_oValid))(hL:G Fn.q73=some (.pure F_rLines)):∀ args r,F_oAll args=some r→wpM G Mc.q90 (pureQ Rs.q90 r) [] (frInit Ks.q90 args) []:=by
 intro args r hF
 unfold F_oAll at hF
 split at hF
 ·rename_i ca
  split at hF
  ·rename_i a ha
   split at hF
   ·rename_i hok
    injection hF with hF; subst hF
    obtain rfl:=decOrg_of ha;obtain ⟨a1,a2,a3,a4⟩:=smO_of hok;have ob:=fun st=>box_org (G:=G) a st []
    have la:∀ x:Blk,loadAV 3 true [.cells a.cells,x] (.ptr 0 0)=some (.agg a.cells):=fun x=>ldOrg _ rfl
    have va:=use_oValid hV a1;rw [wpM_go];simp at ob;cases ca:oValid a with
    | false=>
     rw [ca]at va;have e:allE a=([],1):=by simp [allE,ca]
     have ro:rowsOf [Blk.cells a.cells,Blk.arr 3 0 [] true,Blk.arr 3 0 [] true] (.own 2 0 0)=some []:=rfl;rw [e];generalize a.cells=CA at *;simp [Mc.q90,Ks.q90,frInit,ob,la,va,ro,spRows,pureQ,Rs.q90,-loadAV]
    | true=>
     rw [ca]at va;have e:allE a=(linE a,0):=by simp [allE,ca]
     have cl:=use_rLines hL hok ca;rw [e];generalize a.cells=CA at *;generalize spRows (linE a)=R1 at *;simp [Mc.q90,Ks.q90,frInit,ob,la,va,cl,pureQ,Rs.q90,-loadAV]
   ·cases hF
  ·cases hF
 ·cases hF
end Go.Proofs.YtbfcbkjemlgnpaaGreatDoor
namespace Go.Proofs.YtbfcbkjemlgnpaaGreatDoor
open Go.RowKit Go.IntWalk
theorem sp_neq{G:Gam}(x y:Sp)(st:Bool)(H:Heap):opV G st H (.eqA true [.s,.i,.i]) (some [.agg x.row,.agg y.row])=some (.bool (!decide (x=y)),H):=by
 rw [opV_quiet rfl]
 obtain ⟨p,f,t⟩:=x
 obtain ⟨p',f',t'⟩:=y
 simp only [evalPure,Sp.row,List.length_cons,List.length_nil,and_self,if_true,eqCells,Sp.mk.injEq]
 by_cases h1:p=p'
 ·by_cases h2:f=f'
  ·by_cases h3:t=t'
   ·simp [h1,h2,h3]
   ·simp [h1,h2,h3]
  ·simp [h1,h2]
 ·simp [h1]
def F_same:List AV→Option AV
 | [.sl ra,.sl rb]=>match decAll decSpn ra,decAll decSpn rb with
  | some a,some b=>if a.length≤1000000∧b.length≤1000000 then some (.bool (decide (a=b)))else none
  | _,_=>none
 | _=>none
theorem same_L0{G:Gam}(a b:List Sp)(hl:a.length=b.length)(hn:a.length≤1000000):∀ (ra rb:List Sp) (i:Nat),a.drop i=ra→b.drop i=rb→i≤a.length→
  headM G [] Mc.q80_L0 0 [.blk 0,.seq (.seq (.reg [kz 4 .mv [.c (.bool true)]]) .ret)] (pureQ Rs.q80 (.bool (decide (ra=rb))))
   [(0,.sl (spRows a)),(1,.sl (spRows b)),(4,.bool false),(5,.int .i64 i)] []
 | [],rb,i,hda,hdb,hi=>by
  have hi2:=drop_nil hda;have hb:rb=[]:=by rw [← hdb,List.drop_eq_nil_iff]; omega
  subst hb;have hq:ltB (i:Int) (a.length:Int)=false:=ltB_not.2 (by omega);have ll:∀ H:Heap,lenAV H 1 (.sl (spRows a))=some (.int .i64 (a.length:Int)):=fun H=>by simp [lenAV]
  refine head_go (Mc.q80_L0.eq_1) ?_
  simp [hq,ll,vtrunc_len (n:=0) (h:=[]) rfl,pureQ,Rs.q80,-lenAV]
 | x::ra,[],i,hda,hdb,hi=>by
  obtain ⟨hlt,_,_⟩:=drop_cons hda;have:=drop_nil hdb;omega
 | x::ra,y::rb,i,hda,hdb,hi=>by
  obtain ⟨hlt,hx,hxd⟩:=drop_cons hda;obtain ⟨hlt2,hy,hyd⟩:=drop_cons hdb;have hq:ltB (i:Int) (a.length:Int)=true:=ltB_iff.2 (by omega);have hw:=wrap1 (i:=i) (by unfold big; omega);have ll:∀ H:Heap,lenAV H 1 (.sl (spRows a))=some (.int .i64 (a.length:Int)):=fun H=>by simp [lenAV]
  have ia:=ia_sp hx;have ib:=ia_sp hy;have la:=ld_fsp x;have lb:=ld_fsp y;have ne:=sp_neq (G:=G) x y;have ih:=same_L0 (G:=G) a b hl hn ra rb (i+1) hxd hyd (by omega);refine head_go (Mc.q80_L0.eq_1) ?_
  rw [vtrunc_len (n:=0) (h:=[]) rfl];by_cases hxy:x=y
  ·rw [decide_eq_true hxy]at ne
   have e:decide (x::ra=y::rb)=decide (ra=rb):=by simp [hxy]
   rw [e];generalize spRows a=RA at *;generalize spRows b=RB at *;simp [hq,ll,ia,ib,la,lb,ne,hw,-lenAV,-loadAV];refine head_of ?_
   rw [vtrunc_len (n:=0) rfl];simpa [Rs.q80] using ih
  ·rw [decide_eq_false hxy]at ne
   have e:decide (x::ra=y::rb)=false:=by simp [hxy]
   rw [e];generalize spRows a=RA at *;generalize spRows b=RB at *;simp [hq,ll,ia,ib,la,lb,ne,pureQ,Rs.q80,-lenAV,-loadAV]
theorem same_ok{G:Gam}:∀ args r,F_same args=some r→wpM G Mc.q80 (pureQ Rs.q80 r) [] (frInit Ks.q80 args) []:=by
 intro args r hF
 unfold F_same at hF
 split at hF
 ·split at hF
  ·rename_i a b hda hdb
   split at hF
   ·rename_i hok
    injection hF with hF; subst hF
    obtain rfl:=spRows_of hda;obtain rfl:=spRows_of hdb;have la:∀ H:Heap,lenAV H 1 (.sl (spRows a))=some (.int .i64 (a.length:Int)):=fun H=>by simp [lenAV]
    have lb:∀ H:Heap,lenAV H 1 (.sl (spRows b))=some (.int .i64 (b.length:Int)):=fun H=>by simp [lenAV]
    rw [wpM_go];by_cases hl:a.length=b.length
    ·have q:eqB (a.length:Int) (b.length:Int)=true:=eqB_iff.2 (by omega)
     have ih:=same_L0 (G:=G) a b hl hok.1 a b 0 rfl rfl (by omega);generalize spRows a=RA at *;generalize spRows b=RB at *;simp [Mc.q80,Ks.q80,frInit,la,lb,q,-lenAV];simpa using ih
    ·have q:eqB (a.length:Int) (b.length:Int)=false:=eqB_not.2 (by omega)
     have e:decide (a=b)=false:=decide_eq_false fun h=>hl (by rw [h])
     rw [e];generalize spRows a=RA at *;generalize spRows b=RB at *;simp [Mc.q80,Ks.q80,frInit,la,lb,q,pureQ,Rs.q80,-lenAV]
   ·cases hF
  ·cases hF
 ·cases hF
theorem equal_L0{G:Gam}(a b:List Sp)(hl:a.length=b.length)(hn:a.length≤1000000):∀ (ra rb:List Sp) (i:Nat),a.drop i=ra→b.drop i=rb→i≤a.length→
  headM G [5] Mc.q24_L0 0 [.blk 0,.seq (.seq (.reg [kz 4 .mv [.c (.bool true)]]) .ret)] (pureQ Rs.q24 (.bool (decide (ra=rb))))
   [(0,.sl (spRows a)),(1,.sl (spRows b)),(4,.bool false),(5,.junk),(12,.int .i64 a.length),(13,.int .i64 i)] []
 | [],rb,i,hda,hdb,hi=>by
  have hi2:=drop_nil hda;have hb:rb=[]:=by rw [← hdb,List.drop_eq_nil_iff]; omega
  subst hb;have hq:ltB (i:Int) (a.length:Int)=false:=ltB_not.2 (by omega);refine head_go (Mc.q24_L0.eq_1) ?_
  simp [hq,vtrunc_len (n:=0) (h:=[]) rfl,pureQ,Rs.q24]
 | x::ra,[],i,hda,hdb,hi=>by
  obtain ⟨hlt,_,_⟩:=drop_cons hda;have:=drop_nil hdb;omega
 | x::ra,y::rb,i,hda,hdb,hi=>by
  obtain ⟨hlt,hx,hxd⟩:=drop_cons hda;obtain ⟨hlt2,hy,hyd⟩:=drop_cons hdb;have hq:ltB (i:Int) (a.length:Int)=true:=ltB_iff.2 (by omega);have hw:=wrap1 (i:=i) (by unfold big; omega);have ia:=ia_sp hx;have ib:=ia_sp hy;have la:=ld_fsp x;have lb:=ld_fsp y;have ne:=sp_neq (G:=G) x y;have ih:=equal_L0 (G:=G) a b hl hn ra rb (i+1) hxd hyd (by omega);refine head_go (Mc.q24_L0.eq_1) ?_
  rw [vtrunc_len (n:=0) (h:=[]) rfl];by_cases hxy:x=y
  ·rw [decide_eq_true hxy]at ne
   have e:decide (x::ra=y::rb)=decide (ra=rb):=by simp [hxy]
   rw [e];generalize spRows a=RA at *;generalize spRows b=RB at *;simp [hq,ia,ib,la,lb,ne,hw,-loadAV];refine head_of ?_
   rw [vtrunc_len (n:=0) rfl];simpa [junkAll,Rs.q24] using ih
  ·rw [decide_eq_false hxy]at ne
   have e:decide (x::ra=y::rb)=false:=by simp [hxy]
   rw [e];generalize spRows a=RA at *;generalize spRows b=RB at *;simp [hq,ia,ib,la,lb,ne,pureQ,Rs.q24,-loadAV]
theorem equal_ok{G:Gam}:∀ args r,F_same args=some r→wpM G Mc.q24 (pureQ Rs.q24 r) [] (frInit Ks.q24 args) []:=by
 intro args r hF
 unfold F_same at hF
 split at hF
 ·split at hF
  ·rename_i a b hda hdb
   split at hF
   ·rename_i hok
    injection hF with hF; subst hF
    obtain rfl:=spRows_of hda;obtain rfl:=spRows_of hdb;have la:∀ H:Heap,lenAV H 1 (.sl (spRows a))=some (.int .i64 (a.length:Int)):=fun H=>by simp [lenAV]
    have lb:∀ H:Heap,lenAV H 1 (.sl (spRows b))=some (.int .i64 (b.length:Int)):=fun H=>by simp [lenAV]
    rw [wpM_go];by_cases hl:a.length=b.length
    ·have q:eqB (a.length:Int) (b.length:Int)=true:=eqB_iff.2 (by omega)
     have ih:=equal_L0 (G:=G) a b hl hok.1 a b 0 rfl rfl (by omega);generalize spRows a=RA at *;generalize spRows b=RB at *;simp [Mc.q24,Ks.q24,frInit,la,lb,q,-lenAV];simpa using ih
    ·have q:eqB (a.length:Int) (b.length:Int)=false:=eqB_not.2 (by omega)
     have e:decide (a=b)=false:=decide_eq_false fun h=>hl (by rw [h])
     rw [e];generalize spRows a=RA at *;generalize spRows b=RB at *;simp [Mc.q24,Ks.q24,frInit,la,lb,q,pureQ,Rs.q24,-lenAV]
   ·cases hF
  ·cases hF
 ·cases hF
theorem use_same{G:Gam}{f:FuncId}(h:G f=some (.pure F_same)){a b:List Sp}(ha:a.length≤1000000)(hb:b.length≤1000000)(st:Bool)(H:Heap):opV G st H (.call f) (some [.sl (spRows a),.sl (spRows b)])=some (.bool (decide (a=b)),H):=
 op_call h (us:=[.sl (spRows a),.sl (spRows b)]) rfl (by simp only [F_same,dec_spRows]; rw [if_pos ⟨ha,hb⟩]) (.inl rfl)
def F_sameO:List AV→Option AV
 | [.agg ca,.agg cb]=>match decOrg ca,decOrg cb with
  | some a,some b=>if okO a=true∧okO b=true then some (.bool (decide (a=b)))else none
  | _,_=>none
 | _=>none
theorem sameO_ok{G:Gam}(hS:G Fn.q80=some (.pure F_same)):∀ args r,F_sameO args=some r→wpM G Mc.q50 (pureQ Rs.q50 r) [] (frInit Ks.q50 args) []:=by
 intro args r hF
 unfold F_sameO at hF
 split at hF
 ·split at hF
  ·rename_i ca cb a b ha hb
   split at hF
   ·rename_i hok
    injection hF with hF; subst hF
    obtain rfl:=decOrg_of ha;obtain rfl:=decOrg_of hb;obtain ⟨k1,k2,k3⟩:=okO_of hok.1;obtain ⟨m1,m2,m3⟩:=okO_of hok.2;have ob:=fun st=>box_org (G:=G) a st []
    have ob2:=fun st=>box_org (G:=G) b st [.cells a.cells]
    have pa0:∀ tl:Heap,loadAV 1 false (.cells a.cells::tl) (.ptr 0 0)=some (.sl (spRows a.inn)):=fun tl=>ld_cell (l:=0) rfl rfl
    have pa1:∀ tl:Heap,loadAV 1 false (.cells a.cells::tl) (.ptr 0 1)=some (.sl (spRows a.by_)):=fun tl=>ld_cell (l:=0) rfl rfl
    have pa2:∀ tl:Heap,loadAV 1 false (.cells a.cells::tl) (.ptr 0 2)=some (.sl (spRows a.lst)):=fun tl=>ld_cell (l:=0) rfl rfl
    have pb0:∀ tl:Heap,loadAV 1 false (.cells a.cells::.cells b.cells::tl) (.ptr 1 0)=some (.sl (spRows b.inn)):=fun tl=>ld_cell (l:=1) rfl rfl
    have pb1:∀ tl:Heap,loadAV 1 false (.cells a.cells::.cells b.cells::tl) (.ptr 1 1)=some (.sl (spRows b.by_)):=fun tl=>ld_cell (l:=1) rfl rfl
    have pb2:∀ tl:Heap,loadAV 1 false (.cells a.cells::.cells b.cells::tl) (.ptr 1 2)=some (.sl (spRows b.lst)):=fun tl=>ld_cell (l:=1) rfl rfl
    have s1:=use_same hS (okL_of k1).1 (okL_of m1).1;have s2:=use_same hS (okL_of k2).1 (okL_of m2).1;have s3:=use_same hS (okL_of k3).1 (okL_of m3).1;have e:decide (a=b)=(decide (a.inn=b.inn)&&decide (a.by_=b.by_)&&decide (a.lst=b.lst)):=by
     obtain ⟨x,y,z⟩:=a;obtain ⟨x',y',z'⟩:=b;simp only [Org.mk.injEq];by_cases h1:x=x' <;> by_cases h2:y=y' <;> by_cases h3:z=z' <;> simp [h1,h2,h3]
    rw [wpM_go,e];simp at ob ob2;generalize decide (a.inn=b.inn)=c1 at *;generalize decide (a.by_=b.by_)=c2 at *;generalize decide (a.lst=b.lst)=c3 at *;generalize a.cells=CA at *;generalize b.cells=CB at *;cases c1 <;> cases c2 <;> cases c3 <;>
     simp [Mc.q50,Ks.q50,frInit,ob,ob2,pa0,pa1,pa2,pb0,pb1,pb2,s1,s2,s3,pureQ,Rs.q50,-loadAV]
   ·cases hF
  ·cases hF
 ·cases hF
def fewL(l:List Sp):Bool:=decide (l.length≤12)&&l.all fun s=>decide (s.p.length≤200)
def fewO(o:Org):Bool:=fewL o.inn&&fewL o.by_&&fewL o.lst
def F_few:List AV→Option AV
 | [.sl rows]=>match decAll decSpn rows with
  | some l=>if l.length≤1000000 then some (.bool (fewL l))else none
  | none=>none
 | _=>none
theorem few_L0{G:Gam}(l:List Sp)(hl:l.length≤12):∀ (rest:List Sp) (i:Nat),l.drop i=rest→i≤l.length→
  headM G [] Mc.q91_L0 0 [.blk 0,.seq (.seq (.reg [kz 2 .mv [.c (.bool true)]]) .ret)] (pureQ Rs.q91 (.bool (rest.all fun s=>decide (s.p.length≤200))))
   [(0,.sl (spRows l)),(2,.bool false),(3,.int .i64 i)] []
 | [],i,hd,hi=>by
  have hi2:=drop_nil hd;have hq:ltB (i:Int) (l.length:Int)=false:=ltB_not.2 (by omega);have ll:∀ H:Heap,lenAV H 1 (.sl (spRows l))=some (.int .i64 (l.length:Int)):=fun H=>by simp [lenAV]
  refine head_go (Mc.q91_L0.eq_1) ?_
  simp [hq,ll,vtrunc_len (n:=0) (h:=[]) rfl,pureQ,Rs.q91,-lenAV]
 | s::rest,i,hd,hi=>by
  obtain ⟨hlt,hx,hxd⟩:=drop_cons hd;have hq:ltB (i:Int) (l.length:Int)=true:=ltB_iff.2 (by omega);have hw:=wrap1 (i:=i) (by unfold big; omega);have ll:∀ H:Heap,lenAV H 1 (.sl (spRows l))=some (.int .i64 (l.length:Int)):=fun H=>by simp [lenAV]
  have ls:∀ H:Heap,lenAV H 0 (.str s.p)=some (.int .i64 (s.p.length:Int)):=fun H=>by simp [lenAV]
  have ia:=ia_sp hx;have l0:=ld_fsp0 s;have ih:=few_L0 (G:=G) l hl rest (i+1) hxd (by omega);refine head_go (Mc.q91_L0.eq_1) ?_
  rw [vtrunc_len (n:=0) (h:=[]) rfl];by_cases h:s.p.length≤200
  ·have q2:ltB 200 (s.p.length:Int)=false:=ltB_not.2 (by omega)
   have e:(s::rest).all (fun s=>decide (s.p.length≤200))=rest.all (fun s=>decide (s.p.length≤200)):=by simp [h]
   rw [e];generalize spRows l=RA at *;simp [hq,ll,ls,ia,l0,q2,hw,-lenAV,-loadAV];refine head_of ?_
   rw [vtrunc_len (n:=0) rfl];simpa [Rs.q91] using ih
  ·have q2:ltB 200 (s.p.length:Int)=true:=ltB_iff.2 (by omega)
   have e:(s::rest).all (fun s=>decide (s.p.length≤200))=false:=by simp [h]
   rw [e];generalize spRows l=RA at *;simp [hq,ll,ls,ia,l0,q2,pureQ,Rs.q91,-lenAV,-loadAV]
theorem few_ok{G:Gam}:∀ args r,F_few args=some r→wpM G Mc.q91 (pureQ Rs.q91 r) [] (frInit Ks.q91 args) []:=by
 intro args r hF
 unfold F_few at hF
 split at hF
 ·split at hF
  ·rename_i l hd
   split at hF
   ·rename_i hok
    injection hF with hF; subst hF
    obtain rfl:=spRows_of hd;have ll:∀ H:Heap,lenAV H 1 (.sl (spRows l))=some (.int .i64 (l.length:Int)):=fun H=>by simp [lenAV]
    rw [wpM_go];by_cases h:l.length≤12
    ·have q:ltB 12 (l.length:Int)=false:=ltB_not.2 (by omega)
     have ih:=few_L0 (G:=G) l h l 0 rfl (by omega);have e:fewL l=l.all fun s=>decide (s.p.length≤200):=by simp [fewL,h]
     rw [e];generalize spRows l=RA at *;simp [Mc.q91,Ks.q91,frInit,ll,q,-lenAV];simpa using ih
    ·have q:ltB 12 (l.length:Int)=true:=ltB_iff.2 (by omega)
     have e:fewL l=false:=by simp [fewL,h]
     rw [e];generalize spRows l=RA at *;simp [Mc.q91,Ks.q91,frInit,ll,q,pureQ,Rs.q91,-lenAV]
   ·cases hF
  ·cases hF
 ·cases hF
theorem use_few{G:Gam}(h:G Fn.q91=some (.pure F_few)){l:List Sp}(hl:l.length≤1000000)(st:Bool)(H:Heap):opV G st H (.call Fn.q91) (some [.sl (spRows l)])=some (.bool (fewL l),H):=
 op_call h (us:=[.sl (spRows l)]) rfl (by simp only [F_few,dec_spRows]; rw [if_pos hl]) (.inl rfl)
def F_fewO:List AV→Option AV
 | [.agg cs]=>match decOrg cs with
  | some o=>if o.inn.length≤1000000∧o.by_.length≤1000000∧o.lst.length≤1000000 then some (.bool (fewO o))else none
  | none=>none
 | _=>none
theorem fewO_ok{G:Gam}(hF0:G Fn.q91=some (.pure F_few)):∀ args r,F_fewO args=some r→wpM G Mc.q51 (pureQ Rs.q51 r) [] (frInit Ks.q51 args) []:=by
 intro args r hF
 unfold F_fewO at hF
 split at hF
 ·split at hF
  ·rename_i cs o ho
   split at hF
   ·rename_i hok
    injection hF with hF; subst hF
    obtain rfl:=decOrg_of ho;obtain ⟨k1,k2,k3⟩:=hok;have ob:=fun st=>box_org (G:=G) o st []
    have p0:∀ tl:Heap,loadAV 1 false (.cells o.cells::tl) (.ptr 0 0)=some (.sl (spRows o.inn)):=fun tl=>ld_cell (l:=0) rfl rfl
    have p1:∀ tl:Heap,loadAV 1 false (.cells o.cells::tl) (.ptr 0 1)=some (.sl (spRows o.by_)):=fun tl=>ld_cell (l:=0) rfl rfl
    have p2:∀ tl:Heap,loadAV 1 false (.cells o.cells::tl) (.ptr 0 2)=some (.sl (spRows o.lst)):=fun tl=>ld_cell (l:=0) rfl rfl
    have v1:=use_few hF0 k1;have v2:=use_few hF0 k2;have v3:=use_few hF0 k3;rw [wpM_go];unfold fewO;simp at ob;generalize o.cells=cs at *;cases c1:fewL o.inn <;> rw [c1]at v1 <;> cases c2:fewL o.by_ <;> rw [c2]at v2 <;> cases c3:fewL o.lst <;> rw [c3]at v3 <;>
     simp [Mc.q51,Ks.q51,frInit,ob,p0,p1,p2,v1,v2,v3,pureQ,Rs.q51,-loadAV]
   ·cases hF
  ·cases hF
 ·cases hF
end Go.Proofs.YtbfcbkjemlgnpaaGreatDoor
