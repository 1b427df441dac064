/- slices.IndexFunc and ContainsFunc at spans: by program (tmpl). Has: the program's and the reference's. slices.Sort of numbers: the shelf's contract,turned. Routes: the program's,whatever order the m -/
import Derived.Test.YtbfcbkjemlgnpaaGreatDoorOA
import Derived.Test.YtbfcbkjemlgnpaaGreatDoorAm10
import Derived.Test.YtbfcbkjemlgnpaaGreatDoorOE
import Derived.Test.YtbfcbkjemlgnpaaGreatDoorRmJ
import Derived.Test.YtbfcbkjemlgnpaaGreatDoorRmD
import Derived.Test.YtbfcbkjemlgnpaaGreatDoorRmK
namespace Go.Proofs.YtbfcbkjemlgnpaaGreatDoor
open Go.RowKit Go.IntWalk
theorem idxf_loop_slices_IndexFunc_api_Lines_api_Span_(G:Gam)(h:Heap)(rows:List (List AV))(f:FuncId)(caps:List AV)(hb:rows.length≤big):∀ (rest:List (List AV)) (i:Nat) (v:Int),rows.drop i=rest→findA (fun row=>if row.length=3 then (mkVal true 3 row).bind (ask G h f caps)else none) i rest=some v→
  headM G [5] Mc.q15_L0 h.length [.blk 0,.seq (.seq (.reg [kz 4 .mv [.c (.int .i64 (-1))]]) .ret)] (lookQ Rs.q15 (.int .i64 v) h)
  [(0,.sl rows),(1,.fn f caps),(4,.int .i64 0),(5,.junk),(7,.int .i64 rows.length),(8,.int .i64 i)] h
 | [],i,v,hd,hv=>by
  have hi:=drop_nil hd;have hi':¬ (i:Int)<rows.length:=by omega
  simp only [findA,Option.some.injEq]at hv; subst hv;refine head_go (Mc.q15_L0.eq_1) ?_
  simp [ltB,hi',lookQ,Rs.q15,owns,freezeAll]
 | x::rest,i,v,hd,hv=>by
  obtain ⟨hi,hx,hxd⟩:=drop_cons hd;have hi':(i:Int)<rows.length:=by omega
  have hw:=wrap1 (i:=i) (by omega);by_cases hl:x.length=3
  ·simp only [findA,hl,if_true]at hv
   cases hm:mkVal true 3 x with
   | none=>simp [hm]at hv
   | some a=>
    simp only [hm,Option.bind_some]at hv;have hcut:mkVal true 3 (cut x 0 3)=some a:=by rw [cut_all hl]; exact hm
    cases ha:ask G h f caps a with
    | none=>simp [ha]at hv
    | some b=>
     have hc:=ask_call ha;simp only [ha]at hv;refine head_go (Mc.q15_L0.eq_1) ?_
     cases b with
     | true=>
      simp only [Option.some.injEq]at hv; subst hv;simp [ltB,hi',iadr_sl hx hl,hcut,hc,lookQ,Rs.q15,owns,freezeAll]
     | false=>
      simp [ltB,hi',iadr_sl hx hl,hcut,hc,hw];refine head_of ?_
      have ih:=idxf_loop_slices_IndexFunc_api_Lines_api_Span_ G h rows f caps hb rest (i+1) v hxd hv;simpa using ih
  ·simp [findA,hl]at hv
theorem idxf_ok_slices_IndexFunc_api_Lines_api_Span_(G:Gam):∀ args h r,F_IndexFunc true 3 G args h=some r→wpM G Mc.q15 (lookQ Rs.q15 r h) [] (frInit Ks.q15 args) h:=by
 intro args h r hF
 obtain ⟨rows,f,caps,v,rfl,hb,hv,rfl⟩:=F_IndexFunc_inv hF
 rw [wpM_go]
 have ih:=idxf_loop_slices_IndexFunc_api_Lines_api_Span_ G h rows f caps hb rows 0 v rfl hv
 simpa [Mc.q15,frInit,Ks.q15] using ih
theorem contf_ok_slices_ContainsFunc_api_Lines_api_Span_(G G0:Gam)(hG:G Fn.q15=some (.gen (lookF (F_IndexFunc true 3 G0)))):∀ args h r,F_ContainsFunc true 3 G0 args h=some r→wpM G Mc.q10 (lookQ Rs.q10 r h) [] (frInit Ks.q10 args) h:=by
 intro args h r hF
 obtain ⟨rows,f,caps,v,rfl,hb,hv,rfl⟩:=F_ContainsFunc_inv hF
 rw [wpM_go]
 have hc:∀ h0:Heap,h0=h→opV G false h0 (.call Fn.q15) (some [.sl rows,.fn f caps])=some (.int .i64 v,h0):=fun h0 e=>by subst e; rw [op_call_gen hG]; simp [lookF,F_IndexFunc,hb,hv]
 simp [Mc.q10,frInit,Ks.q10,hc,lookQ,Rs.q10,owns,freezeAll]
end Go.Proofs.YtbfcbkjemlgnpaaGreatDoor
namespace Go.Proofs.YtbfcbkjemlgnpaaGreatDoor
open Go.RowKit Go.IntWalk
def F_has1:List AV→Heap→Option AV
 | [.agg row,.ptr l 0],h=>match decSpn row with
  | some s=>match h[l]? with
   | some (.cellsT _ [.str p,.int .i64 n])=>some (.bool (inS s ⟨p,n⟩))
   | _=>none
  | none=>none
 | _,_=>none
theorem has1_ok{G:Gam}:∀ args h r,F_has1 args h=some r→wpM G Mc.q101 (lookQ Rs.q101 r h) [] (frInit Ks.q101 args) h:=by
 intro args h r hF
 unfold F_has1 at hF
 split at hF
 ·rename_i row l
  split at hF
  ·rename_i s hs
   split at hF
   ·rename_i tg p n hh
    injection hF with hF; subst hF
    obtain rfl:=decSp_of hs;have hl:l<h.length:=(List.getElem?_eq_some_iff.1 hh).1;have hh2:(h++[Blk.cells s.row])[l]?=some (.cellsT tg [.str p,.int .i64 n]):=by rw [List.getElem?_append_left hl]; exact hh
    have la0:loadAV 1 false (h++[.cells s.row]) (.ptr l 0)=some (.str p):=by simp [loadAV,hh2,cut,mkVal]
    have la1:loadAV 1 false (h++[.cells s.row]) (.ptr l 1)=some (.int .i64 n):=by simp [loadAV,hh2,cut,mkVal]
    have ob:=fun st=>box_sp (G:=G) s st h
    have p0:loadAV 1 false (h++[.cells s.row]) (.ptr h.length 0)=some (.str s.p):=ld_cell (l:=h.length) (vs:=s.row) (by simp) rfl;have p1:loadAV 1 false (h++[.cells s.row]) (.ptr h.length 1)=some (.int .i64 s.f):=ld_cell (l:=h.length) (vs:=s.row) (by simp) rfl;have p2:loadAV 1 false (h++[.cells s.row]) (.ptr h.length 2)=some (.int .i64 s.t):=ld_cell (l:=h.length) (vs:=s.row) (by simp) rfl;have e:inS s ⟨p,n⟩=(s.p == p&&!ltB n s.f&&ltB n s.t):=by
     simp only [inS,ltB_dec,← decide_not,Int.not_lt]
    rw [wpM_go,e];cases c1:(s.p == p) <;> cases c2:ltB n s.f <;> cases c3:ltB n s.t <;>
     simp [Mc.q101,frInit,Ks.q101,ob,la0,la1,p0,p1,p2,strBin,c1,c2,c3,lookQ,Rs.q101,owns,freezeAll,-loadAV]
   ·cases hF
  ·cases hF
 ·cases hF
def F_lHas:List AV→Option AV
 | [.sl rows,.agg lr]=>match decAll decSpn rows,decLn lr with
  | some l,some x=>if okL l=true then some (.bool (hasO l x&&validO l))else none
  | _,_=>none
 | _=>none
theorem mkSp(s:Sp):mkVal true 3 s.row=some (.agg s.row)∧s.row.length=3:=⟨by simp [mkVal,Sp.row],rfl⟩
theorem lHas_ok{G G0:Gam}(hC:G Fn.q10=some (.gen (lookF (F_ContainsFunc true 3 G0))))(h1:G0 Fn.q101=some (.gen (lookF F_has1)))(hV:G Fn.q100=some (.pure F_lValid)):∀ args r,F_lHas args=some r→
  wpM G Mc.lineset_Has (pureQ Rs.lineset_Has r) [] (frInit Ks.lineset_Has args) []:=by
 intro args r hF
 unfold F_lHas at hF
 split at hF
 ·split at hF
  ·rename_i l x hd hx
   split at hF
   ·rename_i hok
    injection hF with hF; subst hF
    obtain rfl:=spRows_of hd;obtain rfl:=decLn_of hx;have ob:=fun st=>box_ln (G:=G) x st []
    have cc:opV G false [.cells x.row] (.call Fn.q10) (some [.sl (spRows l),.fn Fn.q101 [.ptr 0 0]])=some (.bool (hasO l x),[.cells x.row]):=
     contains_use (G0:=G0) (xs:=l) (e:=Sp.row) (val:=fun s=>.agg s.row) (agg:=true) (n:=3) (p:=fun s=>inS s x) hC (by have:=(okL_of hok).1; unfold big; omega) mkSp fun s _=>by
      refine ask_of ?_
      simp only [callAV,h1,lookF,F_has1,decSp_row,List.getElem?_cons_zero,Ln.row];rfl
    have cv:=use_lValid hV hok;rw [wpM_go];simp at ob;generalize spRows l=RL at *;cases c1:hasO l x <;> rw [c1]at cc <;> cases c2:validO l <;> rw [c2]at cv <;>
     simp [Mc.lineset_Has,frInit,Ks.lineset_Has,ob,cc,cv,pureQ,Rs.lineset_Has]
   ·cases hF
  ·cases hF
 ·cases hF
theorem use_has{G:Gam}{f:FuncId}(h:G f=some (.pure F_lHas)){l:List Sp}(hl:okL l=true)(x:Ln)(st:Bool)(H:Heap):opV G st H (.call f) (some [.sl (spRows l),.agg x.row])=some (.bool (hasO l x&&validO l),H):=
 op_call h (us:=[.sl (spRows l),.agg x.row]) (by simp [Ln.row,viewL,view]) (by simp only [F_lHas,dec_spRows,decLn_row]; rw [if_pos hl]) (.inl rfl)
theorem rHas_L0{G:Gam}(l:List Sp)(hl:l.length≤1000000)(x:Ln)(lr:AV)(hlr:∀ n,low n lr=true):∀ (rest:List Sp) (i:Nat),l.drop i=rest→i≤l.length→
  headM G [] Mc.q92_L0 1 [.blk 0,.seq (.seq (.reg [kz 4 .mv [.c (.bool false)]]) .ret)] (pureQ Rs.q92 (.bool (hasO rest x)))
   [(0,.sl (spRows l)),(1,lr),(3,.ptr 0 0),(4,.bool false),(5,.int .i64 i)] [.cells x.row]
 | [],i,hd,hi=>by
  have hi2:=drop_nil hd;have hq:ltB (i:Int) (l.length:Int)=false:=ltB_not.2 (by omega);have ll:∀ H:Heap,lenAV H 1 (.sl (spRows l))=some (.int .i64 (l.length:Int)):=fun H=>by simp [lenAV]
  refine head_go (Mc.q92_L0.eq_1) ?_
  simp [hq,ll,vtrunc_len (n:=1) (h:=[.cells x.row]) rfl,hasO,pureQ,Rs.q92,-lenAV]
 | s::rest,i,hd,hi=>by
  obtain ⟨hlt,hx,hxd⟩:=drop_cons hd;have hq:ltB (i:Int) (l.length:Int)=true:=ltB_iff.2 (by omega);have hw:=wrap1 (i:=i) (by unfold big; omega);have ll:∀ H:Heap,lenAV H 1 (.sl (spRows l))=some (.int .i64 (l.length:Int)):=fun H=>by simp [lenAV]
  have ia:=ia_sp hx;have l0:=ld_fsp0 s;have l1:=ld_fsp1 s;have l2:=ld_fsp2 s;have p0:loadAV 1 false [.cells x.row] (.ptr 0 0)=some (.str x.p):=ld_cell (l:=0) rfl rfl;have p1:loadAV 1 false [.cells x.row] (.ptr 0 1)=some (.int .i64 x.n):=ld_cell (l:=0) rfl rfl;have ih:=rHas_L0 (G:=G) l hl x lr hlr rest (i+1) hxd (by omega);have vt:∀ fr,trunc 1 fr [.cells x.row]=[.cells x.row]:=fun fr=>vtrunc_len rfl
  have e:hasO (s::rest) x=(s.p == x.p&&!ltB x.n s.f&&ltB x.n s.t||hasO rest x):=by
   have:inS s x=(s.p == x.p&&!ltB x.n s.f&&ltB x.n s.t):=by simp only [inS,ltB_dec,← decide_not,Int.not_lt]
   simp only [hasO,List.any_cons,this]
  refine head_go (Mc.q92_L0.eq_1) ?_
  rw [vt,e];generalize spRows l=RL at *;generalize x.row=xr at *;cases c1:(s.p == x.p)with
  | false=>
   simp [hq,ll,ia,l0,p0,strBin,c1,hw,-lenAV,-loadAV];refine head_of ?_
   rw [vt];simpa [Rs.q92] using ih
  | true=>
   cases c2:ltB x.n s.f with
   | true=>
    simp [hq,ll,ia,l0,l1,p0,p1,strBin,c1,c2,hw,-lenAV,-loadAV];refine head_of ?_
    rw [vt];simpa [Rs.q92] using ih
   | false=>
    cases c3:ltB x.n s.t with
    | true=>simp [hq,ll,ia,l0,l1,l2,p0,p1,strBin,c1,c2,c3,pureQ,Rs.q92,-lenAV,-loadAV]
    | false=>
     simp [hq,ll,ia,l0,l1,l2,p0,p1,strBin,c1,c2,c3,hw,-lenAV,-loadAV];refine head_of ?_
     rw [vt];simpa [Rs.q92] using ih
theorem rHas_ok{G:Gam}(hV:G Fn.q74=some (.pure F_lValid)):∀ args r,F_lHas args=some r→wpM G Mc.q92 (pureQ Rs.q92 r) [] (frInit Ks.q92 args) []:=by
 intro args r hF
 unfold F_lHas at hF
 split at hF
 ·split at hF
  ·rename_i l x hd hx
   split at hF
   ·rename_i hok
    injection hF with hF; subst hF
    obtain rfl:=spRows_of hd;obtain rfl:=decLn_of hx;have ob:=fun st=>box_ln (G:=G) x st []
    have cv:=use_lValid hV hok;have ih:=rHas_L0 (G:=G) l (okL_of hok).1 x (.agg x.row) (fun n=>by simp [low,lowL,Ln.row]) l 0 rfl (by omega);rw [wpM_go];simp at ob;generalize spRows l=RL at *;cases c2:validO l with
    | false=>
     rw [c2]at cv;generalize x.row=xr at *;simp [Mc.q92,frInit,Ks.q92,ob,cv,pureQ,Rs.q92]
    | true=>
     rw [c2]at cv;generalize x.row=xr at *;simp [Mc.q92,frInit,Ks.q92,ob,cv];simpa using ih
   ·cases hF
  ·cases hF
 ·cases hF
end Go.Proofs.YtbfcbkjemlgnpaaGreatDoor
namespace Go.Proofs.YtbfcbkjemlgnpaaGreatDoor
open Go.RowKit
def eI(n:Int):List AV:=[.int .i64 n]
def decI:List AV→Option Int
 | [.int .i64 n]=>some n
 | _=>none
@[simp] theorem decI_row(n:Int):decI (eI n)=some n:=rfl
theorem decI_of{r:List AV}{n:Int}(h:decI r=some n):r=eI n:=by
 unfold decI at h; split at h
 ·injection h with h; subst h; rfl
 ·cases h
theorem heap_putRowI(w:World)(b:Nat)(d:Array Int)(k:Nat):(Go.Sort.putRow (Value.int .i64) w b 0 d).heap[k]?=if b=k then (w.heap[k]?).map (Go.Sort.onCells (Go.Sort.putCells (Value.int .i64) 0 d))else w.heap[k]?:=by
 simp only [Go.Sort.putRow,Go.Sort.mapBlock]
 rw [Array.getElem?_modify]
theorem ints_flat(xs:List Int):(xs.map eI).flatten=xs.map (.int .i64):=by
 induction xs with
 | nil=>rfl
 | cons x xs ih=>simp [ih,eI]
theorem turn_ints{B:Base}{C:Cx}{h:Heap}{w w':World}(hi:Inv B C h w){l ver:Nat}{xs ys:List Int}{r:RowAt}(hl:h[l]?=some (.arr 1 ver (xs.map eI) true))(har:C.ar l ver=some (some r))(hlen:ys.length=xs.length)
  (hos:w'.os=w.os) (ht:w'.tape=w.tape) (ho:w'.output=w.output) {os:Array Obj} (hh:w'.heap=(Go.Sort.putRow (Value.int .i64) w r.block 0 ys.toArray).heap++os) :
  Inv B C (h.set l (.arr 1 ver (ys.map eI) true)) w'∧Keep B w w':=by
 have hsize:(Go.Sort.putRow (Value.int .i64) w r.block 0 ys.toArray).heap.size=w.heap.size:=by simp
 have hget:∀ k,k<w.heap.size→w'.heap[k]?=if r.block=k then (w.heap[k]?).map (Go.Sort.onCells (Go.Sort.putCells (Value.int .i64) 0 ys.toArray))else w.heap[k]?:=fun k hk=>by
  rw [hh,Array.getElem?_append_left (by rw [hsize]; exact hk),heap_putRowI]
 have hle:w.heap.size≤w'.heap.size:=by rw [hh,Array.size_append,hsize]; omega
 rcases hi.ok l _ hl with ⟨k1,_⟩ | ⟨r',cur,k1,k2,k3,k4,k5,k6,k7,k8,k8',k9,k10,k11,k12⟩
 ·rw [har]at k1; cases k1
 rw [har]at k1; injection k1 with k1; injection k1 with k1; subst k1
 have hb:r.block<w.heap.size:=heap_lt k6
 have hnew:w'.heap[r.block]?=some (.cells (Go.Sort.putCells (Value.int .i64) 0 ys.toArray cur) r.elem r.fz):=by
  rw [hget _ hb,if_pos rfl,k6]; rfl
 have hoth:∀ k,k<w.heap.size→k≠r.block→w'.heap[k]?=w.heap[k]?:=fun k hk hne=>by rw [hget k hk,if_neg (fun e=>hne e.symm)]
 refine ⟨hi.turn hl (.refl C) hle (fun b hb' hbl=>⟨hoth b hbl (fun e=>hb' (by simp [blockOf,har,e])),fun _=>rfl⟩) (fun b o u hu=>?_) hi.one ?_ (fun b hb=>.inl hb) hi.fr (arr_fv hi hl),⟨⟨hos,ht,ho,hle,fun k hk=>hoth k (by have:=hi.hB; omega) (by omega)⟩,fun k c hk=>(hoth k (heap_lt hk) (fun e=>by subst e; rw [k6]at hk; cases hk)).trans hk⟩⟩
 ·have hne:b≠r.block:=fun e=>by subst e; rw [k9 rfl o]at hu; cases hu
  have hc:=hi.im b o u hu;rw [World.cell?_of_block (w:=w) (hoth b (cell_lt hc) hne)]; exact hc
 ·simp only [List.length_map,k11,Nat.mul_one]at k3 k7 k8 k8' k10
  have hcs:ys.length≤cur.size:=by rw [k7]; omega
  have htake:(Go.Sort.putCells (Value.int .i64) 0 ys.toArray cur).toList.take (ys.length*r.size)=ys.map fun s=>Value.int .i64 s:=by
   rw [k11,Nat.mul_one];apply List.ext_getElem?
   intro i;rw [List.getElem?_take];split
   ·rename_i hilt
    simp only [Go.Sort.putCells];have hic:i<cur.size:=by omega
    simp [hic,hilt]
   ·rename_i hilt
    symm;rw [List.getElem?_eq_none_iff,List.length_map]; omega
  refine .inr ⟨r,_,har,k2,by simp [hlen]; exact k3,k4,fun x hx=>?_,hnew,?_,?_,?_,k9,(fun e=>by cases e),k11,k12.len (by simp [hlen])⟩
  ·simp only [List.mem_map]at hx
   obtain ⟨s,_,rfl⟩:=hx;simp [k11,eI]
  ·simp [Go.Sort.putCells,k7,k11]
  ·rw [List.length_map,htake,ints_flat]
   refine ⟨by simp,fun i c u h1 h2=>?_⟩
   simp only [List.getElem?_map,Option.map_eq_some_iff]at h1 h2;obtain ⟨s,h3,rfl⟩:=h1;obtain ⟨s',h4,rfl⟩:=h2;rw [h3]at h4; injection h4 with h4; subst h4
   exact .int .i64 s
  ·intro u hu
   rw [List.length_map,htake]at hu;simp only [List.mem_map]at hu;obtain ⟨s,_,rfl⟩:=hu;rfl
theorem holds_ints{B:Base}{C:Cx}{h:Heap}{w:World}(hi:Inv B C h w){l ver:Nat}{xs:List Int}{r:RowAt}{wr:Bool}(hl:h[l]?=some (.arr 1 ver (xs.map eI) wr))(har:C.ar l ver=some (some r)):Go.Sort.Holds (Value.int .i64) w r.block 0 xs.toArray∧r.block<w.heap.size:=by
 rcases hi.ok l _ hl with ⟨k1,_⟩ | ⟨r',cur,k1,k2,k3,k4,k5,k6,k7,k8,k8',k9,k10,k11,k12⟩
 ·rw [har]at k1; cases k1
 rw [har]at k1; injection k1 with k1; injection k1 with k1; subst k1
 refine ⟨fun j hj=>?_,heap_lt k6⟩
 have hj':j<xs.length:=by simpa using hj
 rw [ints_flat]at k8
 obtain ⟨u,h1,h2⟩:=k8.get (i:=j) (c:=.int .i64 xs[j]) (by simp [hj'])
 rw [List.getElem?_take]at h1
 split at h1
 ·have:=int_inv h2; subst this
  refine ⟨?_,?_⟩
  ·rw [Nat.zero_add,cell_of_heap k6]
   rw [← Array.getElem?_toList,h1];simp [hj']
  ·rw [Nat.zero_add]; exact RowAt.thaw k6 (by rw [k11]; simp at k3; omega)
 ·cases h1
def sortI(xs:List Int):List Int:=xs.mergeSort fun x y=>decide (x≤y)
def decIs:List (List AV)→Option (List Int):=decAll decI
noncomputable def F_SortI:List AV→Heap→Option (AV×Heap)
 | [.own l ver n],h=>match h[l]? with
  | some (.arr 1 ver' rows true)=>match decIs rows with
   | some xs=>if ver=ver'∧n=xs.length∧xs.length≤big then some (.tup [],h.set l (.arr 1 ver ((sortI xs).map eI) true))else none
   | none=>none
  | _=>none
 | _,_=>none
theorem sortI_gen{P:Program}{gv:Gv}{f:FuncId}
  (h1:∀ (blk off cap:Nat) (ss:List Int) (w:World),Go.Sort.Holds (Value.int .i64) w blk off ss.toArray→blk<w.heap.size→ss.length<4611686018427387904→
   Calls P f #[.slice (some ⟨blk,off,none⟩) ss.length cap] w fun e w'=>e=.returned (.tuple #[])∧∃ n os,w'=Go.Sort.grow (Go.Sort.putRow (Value.int .i64) (Go.Sort.ahead w n) blk off (ss.mergeSort fun x y=>decide (x≤y)).toArray) os)
  (h2:∀ (p:Option Addr) (cap:Nat) (w:World),Calls P f #[.slice p 0 cap] w fun e w'=>e=.returned (.tuple #[])∧w'=w):GenOK P gv f F_SortI:=by
 intro B C h w args r h' vals hgv hi hr hF
 match args,hF with
 | [.own l ver n],hF=>
  simp only [F_SortI]at hF;split at hF
  ·rename_i ver' rows hl
   split at hF
   ·rename_i xs hd
    have:=decAll_of (enc:=eI) (fun r x=>decI_of) hd; subst this;split at hF
    ·rename_i hc
     obtain ⟨rfl,rfl,hbig⟩:=hc;injection hF with hF; injection hF with e1 e2; subst e1 e2
     obtain ⟨v,us,e1,hv,hr⟩:=hr.inv_cons;have:=hr.inv_nil; subst this;have hvals:vals=#[v]:=by apply Array.ext'; simpa using e1
     subst hvals;generalize hn:xs.length=n at hv;cases hv with
     | ownnil _ _ har=>
      have hx:xs=[]:=List.length_eq_zero_iff.1 hn;subst hx;refine (h2 none 0 w).mono fun e w' hk=>?_
      obtain ⟨rfl,rfl⟩:=hk;have hs:sortI []=[]:=by simp [sortI]
      rw [hs,set_same hl];exact ⟨_,C,rfl,.refl C,hi,.tup [] #[] rfl (fun i c v h=>by simp at h),.refl _ _⟩
     | own _ _ _ r har hcap=>
      obtain ⟨q1,q2⟩:=holds_ints hi hl har;have hc:=h1 r.block 0 r.cap xs w q1 q2 (by unfold big at hbig; omega);rw [hn]at hc;refine hc.mono fun e w' hk=>?_
      obtain ⟨rfl,q,os,rfl⟩:=hk;obtain ⟨t1,t2⟩:=turn_ints hi (ys:=sortI xs) hl har (by simp [sortI]) (w':=Go.Sort.grow (Go.Sort.putRow (Value.int .i64) (Go.Sort.ahead w q) r.block 0 (xs.mergeSort fun x y=>decide (x≤y)).toArray) os) rfl rfl rfl (os:=os) rfl;exact ⟨_,C,rfl,.refl C,t1,.tup [] #[] rfl (fun i c v h=>by simp at h),t2⟩
    ·cases hF
   ·cases hF
  ·cases hF
end Go.Proofs.YtbfcbkjemlgnpaaGreatDoor
namespace Go.Proofs.YtbfcbkjemlgnpaaGreatDoor
open Go.RowKit Go.IntWalk
def setN(o:Org)(r:Int):List Sp:=if r=1 then o.inn else if r=2 then o.by_ else o.lst
def routesE(o:Org)(x:Ln):List Int:=if oValid o then [1,2,3].filter fun r=>hasO (setN o r) x else []
def F_routes:List AV→Option AV
 | [.agg co,.agg lr]=>match decOrg co,decLn lr with
  | some o,some x=>if okO o=true then some (.sl ((routesE o x).map eI))else none
  | _,_=>none
 | _=>none
def rtEs(o:Org):List (AV×AV):=[(.int .i64 1,.sl (spRows o.inn)),(.int .i64 2,.sl (spRows o.by_)),(.int .i64 3,.sl (spRows o.lst))]
def RH(o:Org)(x:Ln)(os:List Int)(seen:List Nat):Heap:=[.cells o.cells,.cells x.row,.arr 1 0 [] true,.arr 1 os.length (os.map eI) true,.map (rtEs o),.mit (some 4) 3 seen 3]
def RD(o:Org)(x:Ln)(os:List Int):Heap:=[.cells o.cells,.cells x.row,.arr 1 0 [] true,.arr 1 os.length (os.map eI) true,.map (rtEs o),.dead]
section
variable {o:Org} {x:Ln} {os:List Int} {seen:List Nat}
theorem RH_mnx:mnxAV (RH o x os seen) 5=(match left 3 seen with
  | []=>some [(.tup [.bool false],RD o x os)]
  | i::is=>some ((i::is).map fun i=>(.tup [.bool true,((rtEs o)[i]?.getD (.junk,.junk)).1,((rtEs o)[i]?.getD (.junk,.junk)).2],RH o x os (seen++[i])))):=by
 unfold mnxAV
 have e1:(RH o x os seen)[5]?=some (.mit (some 4) 3 seen 3):=rfl
 have e2:(RH o x os seen)[4]?=some (.map (rtEs o)):=rfl
 have e3:(rtEs o).length=3:=rfl
 rw [e1]
 simp only [e2,e3,and_self,if_true,left]
 split <;> rename_i hl
 ·rw [hl]; rfl
 ·rw [hl]; rfl
theorem RH_ent{i:Nat}{a b:AV}(hi:(rtEs o)[i]?=some (a,b)):entAV (RH o x os (seen++[i])) 5=some (.tup [a,b]):=by
 unfold entAV
 have e1:(RH o x os (seen++[i]))[5]?=some (.mit (some 4) 3 (seen++[i]) 3):=rfl
 have e2:(RH o x os (seen++[i]))[4]?=some (.map (rtEs o)):=rfl
 have e3:(rtEs o).length=3:=rfl
 rw [e1]
 simp [e2,e3,hi]
theorem RH_app{G:Gam}{n:Int}(h:os.length<big):opV G false (RH o x os seen) (.app false 1 8) (some [.own 3 os.length os.length,.tsl [eI n]])=some (.own 3 (os++[n]).length (os++[n]).length,RH o x (os++[n]) seen):=by
 have:=op_app1 (G:=G) (s:=false) (h:=RH o x os seen) (l:=3) (e:=eI) (n:=1) (b:=8) (x:=n) (os:=os) rfl rfl (by omega) h
 rw [this]; rfl
end
def rtTail:MC:=.seq (.reg [zm 32 5,zg 33 Fn.q42 [.t 32]]) (.seq (.reg [zm 34 5,zM 4 34]) .ret)
def pickR(b:Nat→Bool)(seen:List Nat):List Int:=(seen.filter b).map fun (i:Nat)=>(i:Int)+1
theorem sort_pick{b:Nat→Bool}{seen:List Nat}(hn:seen.Nodup)(hs:∀ i∈seen,i<3)(hl:left 3 seen=[]):sortI (pickR b seen)=pickR b [0,1,2]:=by
 have hp:seen.Perm [0,1,2]:=(List.perm_ext_iff_of_nodup hn (by decide)).2 fun a=>by
  constructor
  ·intro h; have:=hs a h; simp; omega
  ·intro h; exact left_nil hl a (by simp at h; omega)
 have h1:(pickR b seen).Perm (pickR b [0,1,2]):=(hp.filter b).map _
 have h2:(pickR b [0,1,2]).Pairwise (fun x y=>x≤y):=by
  unfold pickR;rw [List.pairwise_map];have:([0,1,2]:List Nat).Pairwise (·<·):=by decide
  exact (this.filter b).imp fun {a c} h=>by omega
 have h3:(sortI (pickR b seen)).Pairwise (fun x y=>x≤y):=by
  have:=List.pairwise_mergeSort (le:=fun x y:Int=>decide (x≤y)) (fun a b c h k=>by simp at h k ⊢; omega) (fun a b=>by simp; omega) (pickR b seen);exact this.imp fun {a c} h=>by simpa using h
 exact List.Perm.eq_of_pairwise (le:=fun x y:Int=>x≤y) (fun a b _ _ h k=>by omega) h3 h2 ((List.mergeSort_perm _ _).trans h1)
theorem routes_L0{G:Gam}(hH:G Fn.lineset_Has=some (.pure F_lHas))(hS:G Fn.q42=some (.gen F_SortI))(o:Org)(x:Ln)(hok:okO o=true)(hv:oValid o=true)(b:Nat→Bool)(hb:∀ i,i<3→b i=hasO (setN o ((i:Int)+1)) x)(R:List Int)(hR:R=pickR b [0,1,2]) :
  ∀ (N:Nat) (seen:List Nat) (os:List Int),(left 3 seen).length≤N→seen.Nodup→(∀ i∈seen,i<3)→os=pickR b seen→
  headM G [6,7] Mc.q99_L0 6 [.blk 0,.seq rtTail] (pureQ Rs.q99 (.sl (R.map eI)))
   [(0,.agg o.cells),(1,.agg x.row),(2,.ptr 0 0),(3,.ptr 1 0),(4,.own 2 0 0),(5,.own 3 os.length os.length),(6,.junk),(7,.junk),(19,.ptr 5 0)] (RH o x os seen):=by
 intro N
 obtain ⟨k1,k2,k3⟩:=okO_of hok
 obtain ⟨v1,v2,v3⟩:=oValid_of hv
 have fin:∀ (seen:List Nat) (os:List Int),left 3 seen=[]→seen.Nodup→(∀ i∈seen,i<3)→os=pickR b seen→headM G [6,7] Mc.q99_L0 6 [.blk 0,.seq rtTail] (pureQ Rs.q99 (.sl (R.map eI)))
   [(0,.agg o.cells),(1,.agg x.row),(2,.ptr 0 0),(3,.ptr 1 0),(4,.own 2 0 0),(5,.own 3 os.length os.length),(6,.junk),(7,.junk),(19,.ptr 5 0)] (RH o x os seen):=by
  intro seen os h0 hnd hs hos;have hso:sortI os=R:=by rw [hos,hR]; exact sort_pick hnd hs h0
  have hol:os.length≤big:=by
   have:(sortI os).length=os.length:=(List.mergeSort_perm _ _).length_eq;rw [hso,hR]at this;have h3:(pickR b [0,1,2]).length≤3:=by unfold pickR; rw [List.length_map]; exact List.length_filter_le _ _
   unfold big; omega
  have hlen:R.length=os.length:=by rw [← hso]; exact (List.mergeSort_perm _ _).length_eq
  have cs:opV G false (RD o x os) (.call Fn.q42) (some [.own 3 os.length os.length])=some (.tup [],[.cells o.cells,.cells x.row,.arr 1 0 [] true,.arr 1 os.length (R.map eI) true,.map (rtEs o),.dead]):=by
   rw [op_call_gen hS];have e1:(RD o x os)[3]?=some (.arr 1 os.length (os.map eI) true):=rfl;have e2:decIs (os.map eI)=some os:=decAll_enc decI_row os;simp only [F_SortI,e1,e2];rw [if_pos ⟨trivial,trivial,hol⟩,hso]; rfl
  have ro:rowsOf [.cells o.cells,.cells x.row,.arr 1 0 [] true,.arr 1 os.length (R.map eI) true,.map (rtEs o),.dead] (.own 3 os.length os.length)=some (R.map eI):=rows_own (l:=3) rfl (by simp [hlen]);refine head_go (Mc.q99_L0.eq_1) ?_
  rw [vtrunc_len (n:=6) rfl];rw [go_seq,go_rgn];show altM G (some 20) false _ _ _ _ (mnxAV (RH o x os seen) 5)
  rw [RH_mnx,h0];intro r hr;rcases List.mem_singleton.1 hr with rfl
  generalize RD o x os=H1 at *;simp [rtTail,cs,pureQ,Rs.q99];simp [ro]
 induction N with
 | zero=>
  intro seen os hN hnd hs hos;exact fin seen os (List.eq_nil_of_length_eq_zero (by omega)) hnd hs hos
 | succ N ih=>
  intro seen os hN hnd hs hos;cases h0:left 3 seen with
  | nil=>exact fin seen os h0 hnd hs hos
  | cons i0 is0=>
   refine head_go (Mc.q99_L0.eq_1) ?_
   rw [vtrunc_len (n:=6) rfl];rw [go_seq,go_rgn];show altM G (some 20) false _ _ _ _ (mnxAV (RH o x os seen) 5)
   rw [RH_mnx,h0];intro r hr;obtain ⟨i,hi,rfl⟩:=List.mem_map.1 hr;rw [← h0]at hi;obtain ⟨hip,his⟩:=left_mem.1 hi;have hN':(left 3 (seen++[i])).length≤N:=by have:=left_snoc hi; omega
   have hnd':(seen++[i]).Nodup:=by
    rw [List.nodup_append]; exact ⟨hnd,by simp,fun a ha b hb=>by simp at hb; subst hb; exact fun e=>his (e▸ha)⟩
   have hs':∀ j∈seen++[i],j<3:=fun j hj=>by
    rcases List.mem_append.1 hj with hj | hj
    ·exact hs j hj
    ·simp at hj; subst hj; exact hip
   have hol:os.length<big:=by
    rw [hos]; unfold pickR;rw [List.length_map];have h1:(seen.filter b).length≤seen.length:=List.length_filter_le _ _;have h2:seen.length≤3:=by
     have hp:(seen++List.filter (fun j=>!seen.contains j) (List.range 3)).length≤_:=Nat.le_refl _;have:=List.Nodup.length_le_of_subset hnd (l₂:=List.range 3) fun a ha=>List.mem_range.2 (hs a ha)
     simpa using this
    unfold big; omega
   obtain ⟨row,hes,hset⟩:∃ row,(rtEs o)[i]?=some (.int .i64 ((i:Int)+1),.sl (spRows row))∧row=setN o ((i:Int)+1)∧okL row=true∧validO row=true:=by
    have:i=0∨i=1∨i=2:=by omega
    rcases this with rfl | rfl | rfl
    ·exact ⟨o.inn,rfl,rfl,k1,v1⟩
    ·exact ⟨o.by_,rfl,rfl,k2,v2⟩
    ·exact ⟨o.lst,rfl,rfl,k3,v3⟩
   obtain ⟨rfl,hko,hvo⟩:=hset;have hent:=RH_ent (x:=x) (os:=os) (seen:=seen) hes;have hh:=use_has hH hko x false (RH o x os (seen++[i]));rw [hvo,Bool.and_true,← hb i hip]at hh;have lx:loadAV 2 true (RH o x os (seen++[i])) (.ptr 1 0)=some (.agg x.row):=ld_all (l:=1) (vs:=x.row) rfl rfl;have vt:∀ fr os s,trunc 6 fr (RH o x os s)=RH o x os s:=fun fr os s=>vtrunc_len rfl
   have bs:∀ st h,opV G st h (.bsl false 1) (some [.int .i64 ((i:Int)+1)])=some (.tsl [eI ((i:Int)+1)],h):=fun st h=>by rw [op_bsl rfl]; rfl
   have pk:pickR b (seen++[i])=pickR b seen++(if b i then [(i:Int)+1]else []):=by
    unfold pickR; rw [List.filter_append,List.map_append]; congr 1;cases hbb:b i <;> simp [hbb]
   have hes2:((rtEs o)[i]?.getD (.junk,.junk))=(.int .i64 ((i:Int)+1),.sl (spRows (setN o ((i:Int)+1)))):=by rw [hes]; rfl
   rw [hes2];cases hbi:b i with
   | true=>
    rw [hbi]at hh pk;have ap:=RH_app (G:=G) (o:=o) (x:=x) (os:=os) (seen:=seen++[i]) (n:=(i:Int)+1) hol;have next:=ih (seen++[i]) (os++[(i:Int)+1]) hN' hnd' hs' (by rw [pk,hos]; simp)
    have vt2:=fun fr=>vt fr (os++[(i:Int)+1]) (seen++[i])
    generalize RH o x os (seen++[i])=H1 at *;generalize RH o x (os++[(i:Int)+1]) (seen++[i])=H2 at *;generalize (os++[(i:Int)+1]).length=K2 at *;generalize spRows (setN o ((i:Int)+1))=RW at *;simp [hent,lx,hh,bs,ap,-loadAV,-op_bsl];refine head_of ?_
    rw [vt2];simpa [junkAll,Rs.q99] using next
   | false=>
    rw [hbi]at hh pk;have next:=ih (seen++[i]) os hN' hnd' hs' (by rw [pk,hos]; simp)
    have vt2:=fun fr=>vt fr os (seen++[i])
    generalize RH o x os (seen++[i])=H1 at *;generalize spRows (setN o ((i:Int)+1))=RW at *;simp [hent,lx,hh,-loadAV];refine head_of ?_
    rw [vt2];simpa [junkAll,Rs.q99] using next
theorem routes_pick(o:Org)(x:Ln)(hv:oValid o=true):routesE o x=pickR (fun i=>hasO (setN o ((i:Int)+1)) x) [0,1,2]:=by
 have e:routesE o x=[1,2,3].filter fun r=>hasO (setN o r) x:=by simp [routesE,hv]
 rw [e]
 unfold pickR
 have e1:((0:Nat):Int)+1=1:=rfl
 have e2:((1:Nat):Int)+1=2:=rfl
 have e3:((2:Nat):Int)+1=3:=rfl
 simp only [List.filter_cons,List.filter_nil,e1,e2,e3]
 cases hasO (setN o 1) x <;> cases hasO (setN o 2) x <;> cases hasO (setN o 3) x <;> rfl
theorem routes_ok{G:Gam}(hV:G Fn.q109=some (.pure F_oValid))(hH:G Fn.lineset_Has=some (.pure F_lHas))(hS:G Fn.q42=some (.gen F_SortI)):∀ args r,F_routes args=some r→wpM G Mc.q99 (pureQ Rs.q99 r) [] (frInit Ks.q99 args) []:=by
 intro args r hF
 unfold F_routes at hF
 split at hF
 ·split at hF
  ·rename_i co lr o x ho hx
   split at hF
   ·rename_i hok
    injection hF with hF; subst hF
    obtain rfl:=decOrg_of ho;obtain rfl:=decLn_of hx;have ob:=fun st=>box_org (G:=G) o st []
    have ob2:=fun st=>box_ln (G:=G) x st [.cells o.cells]
    have la:∀ y z:Blk,loadAV 3 true [.cells o.cells,y,z] (.ptr 0 0)=some (.agg o.cells):=fun y z=>ldOrg _ rfl
    have p0:∀ tl:Heap,loadAV 1 false (.cells o.cells::tl) (.ptr 0 0)=some (.sl (spRows o.inn)):=fun tl=>ld_cell (l:=0) rfl rfl
    have p1:∀ tl:Heap,loadAV 1 false (.cells o.cells::tl) (.ptr 0 1)=some (.sl (spRows o.by_)):=fun tl=>ld_cell (l:=0) rfl rfl
    have p2:∀ tl:Heap,loadAV 1 false (.cells o.cells::tl) (.ptr 0 2)=some (.sl (spRows o.lst)):=fun tl=>ld_cell (l:=0) rfl rfl
    have va:=use_oValid hV hok;rw [wpM_go];simp at ob ob2;cases hv:oValid o with
    | false=>
     rw [hv]at va;have e:routesE o x=[]:=by simp [routesE,hv]
     rw [e];have ro:rowsOf [Blk.cells o.cells,.cells x.row,.arr 1 0 [] true,.arr 1 0 [] true] (.own 3 0 0)=some []:=rfl;generalize o.cells=CO at *;generalize x.row=CX at *;simp [Mc.q99,Ks.q99,frInit,ob,ob2,la,va,ro,pureQ,Rs.q99,-loadAV]
    | true=>
     rw [hv]at va;have L0:=routes_L0 hH hS o x hok hv (fun i=>hasO (setN o ((i:Int)+1)) x) (fun i _=>rfl) (routesE o x) (routes_pick o x hv) 3 [] [] (left_le _ _) List.nodup_nil (fun _ h=>by cases h) rfl;have mk:opV G false [.cells o.cells,.cells x.row,.arr 1 0 [] true,.arr 1 0 [] true] .mkmap (some [])=some (.map 4,[.cells o.cells,.cells x.row,.arr 1 0 [] true,.arr 1 0 [] true,.map []]):=by rw [opV_eff rfl]; rfl
     have m1:opV G false [.cells o.cells,.cells x.row,.arr 1 0 [] true,.arr 1 0 [] true,.map []] (.mapup .i) (some [.map 4,.int .i64 1,.sl (spRows o.inn)])=some (.junk,[.cells o.cells,.cells x.row,.arr 1 0 [] true,.arr 1 0 [] true,.map [(.int .i64 1,.sl (spRows o.inn))]]):=by rw [opV_eff rfl]; rfl
     have m2:opV G false [.cells o.cells,.cells x.row,.arr 1 0 [] true,.arr 1 0 [] true,.map [(.int .i64 1,.sl (spRows o.inn))]] (.mapup .i) (some [.map 4,.int .i64 2,.sl (spRows o.by_)])=some (.junk,[.cells o.cells,.cells x.row,.arr 1 0 [] true,.arr 1 0 [] true,.map [(.int .i64 1,.sl (spRows o.inn)),(.int .i64 2,.sl (spRows o.by_))]]):=by rw [opV_eff rfl]; rfl
     have m3:opV G false [.cells o.cells,.cells x.row,.arr 1 0 [] true,.arr 1 0 [] true,.map [(.int .i64 1,.sl (spRows o.inn)),(.int .i64 2,.sl (spRows o.by_))]] (.mapup .i) (some [.map 4,.int .i64 3,.sl (spRows o.lst)])=some (.junk,[.cells o.cells,.cells x.row,.arr 1 0 [] true,.arr 1 0 [] true,.map (rtEs o)]):=by rw [opV_eff rfl]; rfl
     have rm:opV G false [.cells o.cells,.cells x.row,.arr 1 0 [] true,.arr 1 0 [] true,.map (rtEs o)] .rngm (some [.map 4])=some (.ptr 5 0,RH o x [] []):=by rw [op_rngm (m:=4) (es:=rtEs o) rfl]; rfl
     have hl:(RH o x [] []).length=6:=rfl;generalize RH o x [] []=H1 at *;generalize rtEs o=ES at *;generalize spRows o.inn=R1 at *;generalize spRows o.by_=R2 at *;generalize spRows o.lst=R3 at *;generalize o.cells=CO at *;generalize x.row=CX at *;simp [Mc.q99,Ks.q99,frInit,ob,ob2,la,va,p0,p1,p2,mk,m1,m2,m3,rm,hl,-loadAV];simpa [rtTail] using L0
   ·cases hF
  ·cases hF
 ·cases hF
theorem rRoutes_ok{G:Gam}(hV:G Fn.q72=some (.pure F_oValid))(hH:G Fn.q92=some (.pure F_lHas)):∀ args r,F_routes args=some r→wpM G Mc.q62 (pureQ Rs.q62 r) [] (frInit Ks.q62 args) []:=by
 intro args r hF
 unfold F_routes at hF
 split at hF
 ·split at hF
  ·rename_i co lr o x ho hx
   split at hF
   ·rename_i hok
    injection hF with hF; subst hF
    obtain rfl:=decOrg_of ho;obtain rfl:=decLn_of hx;obtain ⟨k1,k2,k3⟩:=okO_of hok;have ob:=fun st=>box_org (G:=G) o st []
    have ob2:=fun st=>box_ln (G:=G) x st [.cells o.cells]
    have la:∀ tl:Heap,loadAV 3 true (.cells o.cells::tl) (.ptr 0 0)=some (.agg o.cells):=fun tl=>ldOrg _ rfl
    have lx:∀ tl:Heap,loadAV 2 true (.cells o.cells::.cells x.row::tl) (.ptr 1 0)=some (.agg x.row):=fun tl=>ld_all (l:=1) (vs:=x.row) rfl rfl
    have p0:∀ tl:Heap,loadAV 1 false (.cells o.cells::tl) (.ptr 0 0)=some (.sl (spRows o.inn)):=fun tl=>ld_cell (l:=0) rfl rfl
    have p1:∀ tl:Heap,loadAV 1 false (.cells o.cells::tl) (.ptr 0 1)=some (.sl (spRows o.by_)):=fun tl=>ld_cell (l:=0) rfl rfl
    have p2:∀ tl:Heap,loadAV 1 false (.cells o.cells::tl) (.ptr 0 2)=some (.sl (spRows o.lst)):=fun tl=>ld_cell (l:=0) rfl rfl
    have va:=use_oValid hV hok;have h1:=use_has hH k1 x;have h2:=use_has hH k2 x;have h3:=use_has hH k3 x;have b0:∀ st h,opV G st h (.bsl false 1) (some [])=some (.tsl [],h):=fun st h=>by rw [op_bsl rfl]; rfl
    have b1:∀ (n:Int) st h,opV G st h (.bsl false 1) (some [.int .i64 n])=some (.tsl [eI n],h):=fun n st h=>by rw [op_bsl rfl]; rfl
    have el:∀ n,(eI n).length=1:=fun n=>rfl
    have a0:∀ n,opV G false [.cells o.cells,.cells x.row,.arr 1 0 [] true] (.app false 1 8) (some [.tsl [],.tsl [eI n]])=some (.own 3 0 1,[.cells o.cells,.cells x.row,.arr 1 0 [] true,.arr 1 0 [eI n] true]):=fun n=>
     o_app (G:=G) (s:=false) (P:=[.cells o.cells,.cells x.row,.arr 1 0 [] true]) (n:=1) (b:=8) el (by omega) (L:=3) rfl (os:=[]) (by unfold big; simp) n
    have a1:∀ n m,opV G false [.cells o.cells,.cells x.row,.arr 1 0 [] true,.arr 1 0 [eI m] true] (.app false 1 8) (some [.own 3 0 1,.tsl [eI n]])=some (.own 3 1 2,[.cells o.cells,.cells x.row,.arr 1 0 [] true,.arr 1 1 [eI m,eI n] true]):=fun n m=>
     o_app (G:=G) (s:=false) (P:=[.cells o.cells,.cells x.row,.arr 1 0 [] true]) (n:=1) (b:=8) el (by omega) (L:=3) rfl (os:=[m]) (by unfold big; simp) n
    have a2:∀ n m k,opV G false [.cells o.cells,.cells x.row,.arr 1 0 [] true,.arr 1 1 [eI k,eI m] true] (.app false 1 8) (some [.own 3 1 2,.tsl [eI n]])=some (.own 3 2 3,[.cells o.cells,.cells x.row,.arr 1 0 [] true,.arr 1 2 [eI k,eI m,eI n] true]):=fun n m k=>
     o_app (G:=G) (s:=false) (P:=[.cells o.cells,.cells x.row,.arr 1 0 [] true]) (n:=1) (b:=8) el (by omega) (L:=3) rfl (os:=[k,m]) (by unfold big; simp) n
    rw [wpM_go];simp at ob ob2;cases hv:oValid o with
    | false=>
     rw [hv]at va;have e:routesE o x=[]:=by simp [routesE,hv]
     rw [e];generalize o.cells=CO at *;generalize x.row=CX at *;simp [Mc.q62,Ks.q62,frInit,ob,ob2,la,va,b0,pureQ,Rs.q62,-loadAV,-op_bsl]
    | true=>
     rw [hv]at va;obtain ⟨v1,v2,v3⟩:=oValid_of hv;rw [v1,Bool.and_true]at h1;rw [v2,Bool.and_true]at h2;rw [v3,Bool.and_true]at h3;have e:routesE o x=(if hasO o.inn x then [1]else [])++(if hasO o.by_ x then [2]else [])++(if hasO o.lst x then [3]else []):=by
      have s1:setN o 1=o.inn:=rfl;have s2:setN o 2=o.by_:=rfl;have s3:setN o 3=o.lst:=rfl;simp only [routesE,hv,if_true,List.filter_cons,List.filter_nil,s1,s2,s3];cases hasO o.inn x <;> cases hasO o.by_ x <;> cases hasO o.lst x <;> rfl
     rw [e];generalize hasO o.inn x=c1 at *;generalize hasO o.by_ x=c2 at *;generalize hasO o.lst x=c3 at *;generalize spRows o.inn=R1 at *;generalize spRows o.by_=R2 at *;generalize spRows o.lst=R3 at *;generalize o.cells=CO at *;generalize x.row=CX at *;cases c1 <;> cases c2 <;> cases c3 <;>
      simp [Mc.q62,Ks.q62,frInit,ob,ob2,la,lx,va,p0,p1,p2,h1,h2,h3,b0,b1,a0,a1,a2,pureQ,Rs.q62,view,rowsOf,-loadAV,-op_bsl]
   ·cases hF
  ·cases hF
 ·cases hF
theorem use_routes{G:Gam}{f:FuncId}(h:G f=some (.pure F_routes)){o:Org}(ho:okO o=true)(x:Ln)(st:Bool)(H:Heap):opV G st H (.call f) (some [.agg o.cells,.agg x.row])=some (.sl ((routesE o x).map eI),H):=
 op_call h (us:=[.agg o.cells,.agg x.row]) (by simp [Org.cells,Ln.row,viewL,view]) (by simp only [F_routes,decOrg_cells,decLn_row]; rw [if_pos ho]) (.inr (by simp [ownsL,owns,Org.cells,Ln.row]))
end Go.Proofs.YtbfcbkjemlgnpaaGreatDoor
namespace Go.Proofs.YtbfcbkjemlgnpaaGreatDoor
open Go.RowKit Go.IntWalk
def iRows(l:List Int):List (List AV):=l.map eI
@[simp] theorem iRows_len{l:List Int}:(iRows l).length=l.length:=by simp [iRows]
@[simp] theorem dec_iRows(l:List Int):decAll decI (iRows l)=some l:=decAll_enc decI_row l
theorem iRows_of{rs:List (List AV)}{l:List Int}(h:decAll decI rs=some l):rs=iRows l:=decAll_of (enc:=eI) (fun _ _=>decI_of) h
theorem ia_i{l:List Int}{i:Nat}{n:Int}(h:l[i]?=some n)(H:Heap):iadrAV 1 H (.sl (iRows l)) (.int .i64 (i:Int))=some (.fptr (eI n) 0):=by
 have r1:(iRows l)[i]?=some (eI n):=by simp [iRows,h]
 have:(eI n).length=1:=rfl
 simp [iadrAV,r1,this]
theorem ld_fi(n:Int)(H:Heap):loadAV 1 false H (.fptr (eI n) 0)=some (.int .i64 n):=by simp [loadAV,cut,mkVal,eI]
def F_eqI:List AV→Option AV
 | [.sl ra,.sl rb]=>match decAll decI ra,decAll decI rb with
  | some a,some b=>if a.length≤1000000∧b.length≤1000000 then some (.bool (decide (a=b)))else none
  | _,_=>none
 | _=>none
theorem eqI_L0{G:Gam}(a b:List Int)(hl:a.length=b.length)(hn:a.length≤1000000):∀ (ra rb:List Int) (i:Nat),a.drop i=ra→b.drop i=rb→i≤a.length→
  headM G [5] Mc.q38_L0 0 [.blk 0,.seq (.seq (.reg [kz 4 .mv [.c (.bool true)]]) .ret)] (pureQ Rs.q38 (.bool (decide (ra=rb))))
   [(0,.sl (iRows a)),(1,.sl (iRows b)),(4,.bool false),(5,.junk),(12,.int .i64 a.length),(13,.int .i64 i)] []
 | [],rb,i,hda,hdb,hi=>by
  have hi2:=drop_nil hda;have hb:rb=[]:=by rw [← hdb,List.drop_eq_nil_iff]; omega
  subst hb;have hq:ltB (i:Int) (a.length:Int)=false:=ltB_not.2 (by omega);refine head_go (Mc.q38_L0.eq_1) ?_
  simp [hq,vtrunc_len (n:=0) (h:=[]) rfl,pureQ,Rs.q38]
 | x::ra,[],i,hda,hdb,hi=>by
  obtain ⟨hlt,_,_⟩:=drop_cons hda;have:=drop_nil hdb;omega
 | x::ra,y::rb,i,hda,hdb,hi=>by
  obtain ⟨hlt,hx,hxd⟩:=drop_cons hda;obtain ⟨hlt2,hy,hyd⟩:=drop_cons hdb;have hq:ltB (i:Int) (a.length:Int)=true:=ltB_iff.2 (by omega);have hw:=wrap1 (i:=i) (by unfold big; omega);have ia:=ia_i hx;have ib:=ia_i hy;have la:=ld_fi x;have lb:=ld_fi y;have ih:=eqI_L0 (G:=G) a b hl hn ra rb (i+1) hxd hyd (by omega);refine head_go (Mc.q38_L0.eq_1) ?_
  rw [vtrunc_len (n:=0) (h:=[]) rfl];by_cases hxy:x=y
  ·have q:eqB x y=true:=eqB_iff.2 hxy
   have e:decide (x::ra=y::rb)=decide (ra=rb):=by simp [hxy]
   rw [e];generalize iRows a=RA at *;generalize iRows b=RB at *;simp [hq,ia,ib,la,lb,q,hw,-loadAV];refine head_of ?_
   rw [vtrunc_len (n:=0) rfl];simpa [junkAll,Rs.q38] using ih
  ·have q:eqB x y=false:=eqB_not.2 hxy
   have e:decide (x::ra=y::rb)=false:=by simp [hxy]
   rw [e];generalize iRows a=RA at *;generalize iRows b=RB at *;simp [hq,ia,ib,la,lb,q,pureQ,Rs.q38,-loadAV]
theorem eqI_ok{G:Gam}:∀ args r,F_eqI args=some r→wpM G Mc.q38 (pureQ Rs.q38 r) [] (frInit Ks.q38 args) []:=by
 intro args r hF
 unfold F_eqI at hF
 split at hF
 ·split at hF
  ·rename_i a b hda hdb
   split at hF
   ·rename_i hok
    injection hF with hF; subst hF
    obtain rfl:=iRows_of hda;obtain rfl:=iRows_of hdb;have la:∀ H:Heap,lenAV H 1 (.sl (iRows a))=some (.int .i64 (a.length:Int)):=fun H=>by simp [lenAV]
    have lb:∀ H:Heap,lenAV H 1 (.sl (iRows b))=some (.int .i64 (b.length:Int)):=fun H=>by simp [lenAV]
    rw [wpM_go];by_cases hl:a.length=b.length
    ·have q:eqB (a.length:Int) (b.length:Int)=true:=eqB_iff.2 (by omega)
     have ih:=eqI_L0 (G:=G) a b hl hok.1 a b 0 rfl rfl (by omega);generalize iRows a=RA at *;generalize iRows b=RB at *;simp [Mc.q38,Ks.q38,frInit,la,lb,q,-lenAV];simpa using ih
    ·have q:eqB (a.length:Int) (b.length:Int)=false:=eqB_not.2 (by omega)
     have e:decide (a=b)=false:=decide_eq_false fun h=>hl (by rw [h])
     rw [e];generalize iRows a=RA at *;generalize iRows b=RB at *;simp [Mc.q38,Ks.q38,frInit,la,lb,q,pureQ,Rs.q38,-lenAV]
   ·cases hF
  ·cases hF
 ·cases hF
theorem use_eqI{G:Gam}(h:G Fn.q38=some (.pure F_eqI)){a b:List Int}(ha:a.length≤1000000)(hb:b.length≤1000000)(st:Bool)(H:Heap):opV G st H (.call Fn.q38) (some [.sl (iRows a),.sl (iRows b)])=some (.bool (decide (a=b)),H):=
 op_call h (us:=[.sl (iRows a),.sl (iRows b)]) rfl (by simp only [F_eqI,dec_iRows]; rw [if_pos ⟨ha,hb⟩]) (.inl rfl)
def idxI(v:Int):Nat→List Int→Int
 | _,[]=>-1
 | i,y::r=>if v=y then (i:Int)else idxI v (i+1) r
theorem idxI_has(v:Int):∀ (l:List Int) (i:Nat),decide (0≤idxI v i l)=l.contains v
 | [],i=>rfl
 | y::r,i=>by
  unfold idxI;rw [List.contains_cons];by_cases h:v=y
  ·rw [if_pos h]; simp [h]
  ·rw [if_neg h,idxI_has v r (i+1)]; simp [h]
def F_idxI:List AV→Option AV
 | [.sl ra,.int .i64 v]=>match decAll decI ra with
  | some a=>if a.length≤1000000 then some (.int .i64 (idxI v 0 a))else none
  | _=>none
 | _=>none
def F_hasI:List AV→Option AV
 | [.sl ra,.int .i64 v]=>match decAll decI ra with
  | some a=>if a.length≤1000000 then some (.bool (a.contains v))else none
  | _=>none
 | _=>none
theorem idxI_L0{G:Gam}(a:List Int)(v:Int)(hn:a.length≤1000000):∀ (ra:List Int) (i:Nat),a.drop i=ra→i≤a.length→
  headM G [5] Mc.q39_L0 0 [.blk 0,.seq (.seq (.reg [kz 4 .mv [.c (.int .i64 (-1))]]) .ret)] (pureQ Rs.q39 (.int .i64 (idxI v i ra)))
   [(0,.sl (iRows a)),(1,.int .i64 v),(4,.int .i64 0),(5,.junk),(7,.int .i64 a.length),(8,.int .i64 i)] []
 | [],i,hda,hi=>by
  have hi2:=drop_nil hda;have hq:ltB (i:Int) (a.length:Int)=false:=ltB_not.2 (by omega);refine head_go (Mc.q39_L0.eq_1) ?_
  simp [hq,vtrunc_len (n:=0) (h:=[]) rfl,idxI,pureQ,Rs.q39]
 | x::ra,i,hda,hi=>by
  obtain ⟨hlt,hx,hxd⟩:=drop_cons hda;have hq:ltB (i:Int) (a.length:Int)=true:=ltB_iff.2 (by omega);have hw:=wrap1 (i:=i) (by unfold big; omega);have ia:=ia_i hx;have la:=ld_fi x;have ih:=idxI_L0 (G:=G) a v hn ra (i+1) hxd (by omega);refine head_go (Mc.q39_L0.eq_1) ?_
  rw [vtrunc_len (n:=0) (h:=[]) rfl];unfold idxI;by_cases hxy:v=x
  ·have q:eqB v x=true:=eqB_iff.2 hxy
   rw [if_pos hxy];generalize iRows a=RA at *;simp [hq,ia,la,q,pureQ,Rs.q39,-loadAV]
  ·have q:eqB v x=false:=eqB_not.2 hxy
   rw [if_neg hxy];generalize iRows a=RA at *;simp [hq,ia,la,q,hw,-loadAV];refine head_of ?_
   rw [vtrunc_len (n:=0) rfl];simpa [junkAll,Rs.q39] using ih
theorem idxI_ok{G:Gam}:∀ args r,F_idxI args=some r→wpM G Mc.q39 (pureQ Rs.q39 r) [] (frInit Ks.q39 args) []:=by
 intro args r hF
 unfold F_idxI at hF
 split at hF
 ·rename_i ra v
  split at hF
  ·rename_i a hda
   split at hF
   ·rename_i hok
    injection hF with hF; subst hF
    obtain rfl:=iRows_of hda;have ih:=idxI_L0 (G:=G) a v hok a 0 rfl (by omega);rw [wpM_go];simp [Mc.q39,Ks.q39,frInit,lenAV];simpa using ih
   ·cases hF
  ·cases hF
 ·cases hF
theorem hasI_ok{G:Gam}(hI:G Fn.q39=some (.pure F_idxI)):∀ args r,F_hasI args=some r→wpM G Mc.q31 (pureQ Rs.q31 r) [] (frInit Ks.q31 args) []:=by
 intro args r hF
 unfold F_hasI at hF
 split at hF
 ·rename_i ra v
  split at hF
  ·rename_i a hda
   split at hF
   ·rename_i hok
    injection hF with hF; subst hF
    obtain rfl:=iRows_of hda;have ci:∀ st H,opV G st H (.call Fn.q39) (some [.sl (iRows a),.int .i64 v])=some (.int .i64 (idxI v 0 a),H):=fun st H=>
     op_call hI (us:=[.sl (iRows a),.int .i64 v]) rfl (by simp only [F_idxI,dec_iRows]; rw [if_pos hok]) (.inl rfl)
    have e:(!ltB (idxI v 0 a) 0)=a.contains v:=by
     rw [← idxI_has v a 0,ltB_dec,← decide_not];congr 1
     simp
    rw [wpM_go,← e];generalize iRows a=RA at *;simp [Mc.q31,Ks.q31,frInit,ci,pureQ,Rs.q31]
   ·cases hF
  ·cases hF
 ·cases hF
theorem use_hasI{G:Gam}(h:G Fn.q31=some (.pure F_hasI)){a:List Int}(ha:a.length≤1000000)(v:Int)(st:Bool)(H:Heap):opV G st H (.call Fn.q31) (some [.sl (iRows a),.int .i64 v])=some (.bool (a.contains v),H):=
 op_call h (us:=[.sl (iRows a),.int .i64 v]) rfl (by simp only [F_hasI,dec_iRows]; rw [if_pos ha]) (.inl rfl)
end Go.Proofs.YtbfcbkjemlgnpaaGreatDoor
