/- component.Relate and its reference: both are relE. The law ComponentRelates. -/
import Derived.Test.YtpefhfiehfkocaaGreatDoorCA
import Derived.Test.YtpefhfiehfkocaaGreatDoorOB
import Derived.Test.YtpefhfiehfkocaaGreatDoorOF
import Derived.Test.YtpefhfiehfkocaaGreatDoorRmA
import Derived.Test.YtpefhfiehfkocaaGreatDoorOE
import Derived.Test.YtpefhfiehfkocaaGreatDoorRmB
namespace Go.Proofs.YtpefhfiehfkocaaGreatDoor
open Go.RowKit Go.IntWalk
def hasP(l:List Sp)(p:Bs):Bool:=l.any fun s=>s.p == p
def menO(p:Bs)(o:Org):Bool:=hasP o.inn p||hasP o.by_ p
def relE(w:Org)(ls:List Org)(p:Bs):Int×Bool:=
 if hasP w.inn p then (0,true)else if hasP w.by_ p then (1,true)else if ls.any (menO p)then (2,true)else (0,false)
def orgRows(l:List Org):List (List AV):=l.map Org.cells
@[simp] theorem orgRows_len{l:List Org}:(orgRows l).length=l.length:=by simp [orgRows]
theorem orgRows_get{l:List Org}{i:Nat}{o:Org}(h:l[i]?=some o):(orgRows l)[i]?=some o.cells:=by simp [orgRows,h]
@[simp] theorem dec_orgRows(l:List Org):decAll decOrg (orgRows l)=some l:=decAll_enc decOrg_cells l
theorem orgRows_of{rs:List (List AV)}{l:List Org}(h:decAll decOrg rs=some l):rs=orgRows l:=decAll_of (enc:=Org.cells) (fun _ _=>decOrg_of) h
theorem ia_org{l:List Org}{i:Nat}{o:Org}(h:l[i]?=some o)(H:Heap):iadrAV 3 H (.sl (orgRows l)) (.int .i64 (i:Int))=some (.fptr o.cells 0):=by
 have r1:=orgRows_get h
 have:o.cells.length=3:=rfl
 simp [iadrAV,r1,this]
theorem ld_forg0(o:Org)(H:Heap):loadAV 1 false H (.fptr o.cells 0)=some (.sl (spRows o.inn)):=by simp [loadAV,cut,mkVal,Org.cells]
theorem ld_forg1(o:Org)(H:Heap):loadAV 1 false H (.fptr o.cells 1)=some (.sl (spRows o.by_)):=by simp [loadAV,cut,mkVal,Org.cells]
theorem box_str{G:Gam}(p:Bs)(st:Bool)(h:Heap):opV G st h .box (some [.str p])=some (.ptr h.length 0,h++[.cells [.str p]]):=op_boxed (h:=h) (v:=.str p) (by simp [AV.cells])
theorem mkOrg(o:Org):mkVal true 3 o.cells=some (.agg o.cells)∧o.cells.length=3:=⟨by simp [mkVal,Org.cells],rfl⟩
def F_ment1:List AV→Heap→Option AV
 | [.agg row,.ptr l 0],h=>match decSpn row with
  | some s=>match h[l]? with
   | some (.cellsT _ [.str p])=>some (.bool (s.p == p))
   | _=>none
  | none=>none
 | _,_=>none
theorem ment1_ok{G:Gam}:∀ args h r,F_ment1 args h=some r→wpM G Mc.q46 (lookQ Rs.q46 r h) [] (frInit Ks.q46 args) h:=by
 intro args h r hF
 unfold F_ment1 at hF
 split at hF
 ·rename_i row l
  split at hF
  ·rename_i s hs
   split at hF
   ·rename_i tg p hh
    injection hF with hF; subst hF
    obtain rfl:=decSp_of hs;have hl:l<h.length:=(List.getElem?_eq_some_iff.1 hh).1;have hh2:(h++[Blk.cells s.row])[l]?=some (.cellsT tg [.str p]):=by rw [List.getElem?_append_left hl]; exact hh
    have la0:loadAV 1 false (h++[.cells s.row]) (.ptr l 0)=some (.str p):=by simp [loadAV,hh2,cut,mkVal]
    have ob:=fun st=>box_sp (G:=G) s st h
    have p0:loadAV 1 false (h++[.cells s.row]) (.ptr h.length 0)=some (.str s.p):=ld_cell (l:=h.length) (vs:=s.row) (by simp) rfl;rw [wpM_go];simp [Mc.q46,frInit,Ks.q46,ob,la0,p0,strBin,lookQ,Rs.q46,owns,freezeAll,-loadAV]
   ·cases hF
  ·cases hF
 ·cases hF
def F_ment:List AV→Option AV
 | [.sl rows,.str p]=>match decAll decSpn rows with
  | some l=>if l.length≤1000000 then some (.bool (hasP l p))else none
  | none=>none
 | _=>none
theorem ment_ok{G G0:Gam}(hC:G Fn.q14=some (.gen (lookF (F_ContainsFunc true 3 G0))))(h1:G0 Fn.q46=some (.gen (lookF F_ment1))):∀ args r,F_ment args=some r→
  wpM G Mc.q51 (pureQ Rs.q51 r) [] (frInit Ks.q51 args) []:=by
 intro args r hF
 unfold F_ment at hF
 split at hF
 ·rename_i rows p
  split at hF
  ·rename_i l hd
   split at hF
   ·rename_i hok
    injection hF with hF; subst hF
    obtain rfl:=spRows_of hd;have ob:=fun st=>box_str (G:=G) p st []
    have cc:opV G false [.cells [.str p]] (.call Fn.q14) (some [.sl (spRows l),.fn Fn.q46 [.ptr 0 0]])=some (.bool (hasP l p),[.cells [.str p]]):=
     contains_use (G0:=G0) (xs:=l) (e:=Sp.row) (val:=fun s=>.agg s.row) (agg:=true) (n:=3) (p:=fun s=>s.p == p) hC (by unfold big; omega) (fun s=>⟨by simp [mkVal,Sp.row],rfl⟩) fun s _=>by
      refine ask_of ?_
      simp only [callAV,h1,lookF,F_ment1,decSp_row,List.getElem?_cons_zero];rfl
    rw [wpM_go];simp at ob;generalize spRows l=RL at *;generalize hasP l p=c at *;simp [Mc.q51,frInit,Ks.q51,cc,pureQ,Rs.q51]
   ·cases hF
  ·cases hF
 ·cases hF
theorem use_ment{G:Gam}{f:FuncId}(h:G f=some (.pure F_ment)){l:List Sp}(hl:l.length≤1000000)(p:Bs)(st:Bool)(H:Heap):opV G st H (.call f) (some [.sl (spRows l),.str p])=some (.bool (hasP l p),H):=
 op_call h (us:=[.sl (spRows l),.str p]) (by simp [viewL,view]) (by simp only [F_ment,dec_spRows]; rw [if_pos hl]) (.inl rfl)
def F_rel1:List AV→Heap→Option AV
 | [.agg cs,.ptr l 0],h=>match decOrg cs with
  | some o=>match h[l]? with
   | some (.cellsT _ [.str p])=>if o.inn.length≤1000000∧o.by_.length≤1000000 then some (.bool (menO p o))else none
   | _=>none
  | none=>none
 | _,_=>none
theorem rel1_ok{G:Gam}(hM:G Fn.q51=some (.pure F_ment)):∀ args h r,F_rel1 args h=some r→wpM G Mc.q54 (lookQ Rs.q54 r h) [] (frInit Ks.q54 args) h:=by
 intro args h r hF
 unfold F_rel1 at hF
 split at hF
 ·rename_i cs l
  split at hF
  ·rename_i o ho
   split at hF
   ·rename_i tg p hh
    split at hF
    ·rename_i hok
     injection hF with hF; subst hF
     obtain rfl:=decOrg_of ho;have hl:l<h.length:=(List.getElem?_eq_some_iff.1 hh).1;have hh2:(h++[Blk.cells o.cells])[l]?=some (.cellsT tg [.str p]):=by rw [List.getElem?_append_left hl]; exact hh
     have la0:loadAV 1 false (h++[.cells o.cells]) (.ptr l 0)=some (.str p):=by simp [loadAV,hh2,cut,mkVal]
     have ob:=fun st=>box_org (G:=G) o st h
     have p0:loadAV 1 false (h++[.cells o.cells]) (.ptr h.length 0)=some (.sl (spRows o.inn)):=ld_cell (l:=h.length) (vs:=o.cells) (by simp) rfl;have p1:loadAV 1 false (h++[.cells o.cells]) (.ptr h.length 1)=some (.sl (spRows o.by_)):=ld_cell (l:=h.length) (vs:=o.cells) (by simp) rfl;have m0:=use_ment hM hok.1 p;have m1:=use_ment hM hok.2 p;rw [wpM_go];unfold menO;generalize o.cells=CS at *;generalize hasP o.inn p=c1 at *;generalize hasP o.by_ p=c2 at *;cases c1 <;> simp [Mc.q54,frInit,Ks.q54,ob,la0,p0,p1,m0,m1,lookQ,Rs.q54,owns,freezeAll,-loadAV]
    ·cases hF
   ·cases hF
  ·cases hF
 ·cases hF
def F_relate:List AV→Option AV
 | [.agg cs,.sl rows,.str p]=>match decOrg cs,decAll decOrg rows with
  | some w,some ls=>if okO w=true∧ls.all okO=true∧ls.length≤2000000 then some (.tup [.int .i64 (relE w ls p).1,.bool (relE w ls p).2])else none
  | _,_=>none
 | _=>none
theorem relate_ok{G G0:Gam}(hM:G Fn.q51=some (.pure F_ment))(hC:G Fn.q9=some (.gen (lookF (F_ContainsFunc true 3 G0))))(h1:G0 Fn.q54=some (.gen (lookF F_rel1))) :
  ∀ args r,F_relate args=some r→wpM G Mc.q61 (pureQ Rs.q61 r) [] (frInit Ks.q61 args) []:=by
 intro args r hF
 unfold F_relate at hF
 split at hF
 ·rename_i cs rows p
  split at hF
  ·rename_i w ls hw hls
   split at hF
   ·rename_i hok
    injection hF with hF; subst hF
    obtain rfl:=decOrg_of hw;obtain rfl:=orgRows_of hls;obtain ⟨ow,ol,hll⟩:=hok;obtain ⟨k1,k2,k3⟩:=okO_of ow;simp only [List.all_eq_true]at ol;have ob:=fun st=>box_org (G:=G) w st []
    have ob2:=fun st=>box_str (G:=G) p st [.cells w.cells]
    have cc:opV G false [.cells w.cells,.cells [.str p]] (.call Fn.q9) (some [.sl (orgRows ls),.fn Fn.q54 [.ptr 1 0]])=some (.bool (ls.any (menO p)),[.cells w.cells,.cells [.str p]]):=
     contains_use (G0:=G0) (xs:=ls) (e:=Org.cells) (val:=fun o=>.agg o.cells) (agg:=true) (n:=3) (p:=menO p) hC (by unfold big; omega) mkOrg fun o ho=>by
      obtain ⟨q1,q2,q3⟩:=okO_of (ol o ho);refine ask_of ?_
      simp only [callAV,h1,lookF,F_rel1,decOrg_cells,List.getElem?_cons_succ,List.getElem?_cons_zero];rw [if_pos ⟨(okL_of q1).1,(okL_of q2).1⟩];rfl
    have m0:=use_ment hM (okL_of k1).1 p;have m1:=use_ment hM (okL_of k2).1 p;have p0:∀ tl:Heap,loadAV 1 false (.cells w.cells::tl) (.ptr 0 0)=some (.sl (spRows w.inn)):=fun tl=>ld_cell (l:=0) rfl rfl
    have p1:∀ tl:Heap,loadAV 1 false (.cells w.cells::tl) (.ptr 0 1)=some (.sl (spRows w.by_)):=fun tl=>ld_cell (l:=0) rfl rfl
    have p2:∀ tl:Heap,loadAV 1 false (.cells w.cells::.cells [.str p]::tl) (.ptr 1 0)=some (.str p):=fun tl=>ld_cell (l:=1) rfl rfl
    rw [wpM_go];simp at ob ob2;unfold relE;generalize w.cells=CS at *;generalize orgRows ls=RL at *;cases c1:hasP w.inn p <;> rw [c1]at m0 <;> cases c2:hasP w.by_ p <;> rw [c2]at m1 <;> cases c3:ls.any (menO p) <;> rw [c3]at cc <;>
     simp [Mc.q61,frInit,Ks.q61,ob,cc,m0,m1,p0,p1,p2,pureQ,Rs.q61,-loadAV]
   ·cases hF
  ·cases hF
 ·cases hF
theorem rhas_L0{G:Gam}(l:List Sp)(hl:l.length≤1000000)(p:Bs):∀ (rest:List Sp) (i:Nat),l.drop i=rest→i≤l.length→
  headM G [] Mc.q69_L0 0 [.blk 0,.seq (.seq (.reg [kz 4 .mv [.c (.bool false)]]) .ret)] (pureQ Rs.q69 (.bool (hasP rest p)))
   [(0,.sl (spRows l)),(1,.str p),(4,.bool false),(5,.int .i64 i)] []
 | [],i,hd,hi=>by
  have hi2:=drop_nil hd;have hq:ltB (i:Int) (l.length:Int)=false:=ltB_not.2 (by omega);have ll:∀ H:Heap,lenAV H 1 (.sl (spRows l))=some (.int .i64 (l.length:Int)):=fun H=>by simp [lenAV]
  refine head_go (Mc.q69_L0.eq_1) ?_
  simp [hq,ll,vtrunc_len (n:=0) (h:=[]) rfl,hasP,pureQ,Rs.q69,-lenAV]
 | s::rest,i,hd,hi=>by
  obtain ⟨hlt,hx,hxd⟩:=drop_cons hd;have hq:ltB (i:Int) (l.length:Int)=true:=ltB_iff.2 (by omega);have hw:=wrap1 (i:=i) (by unfold big; omega);have ll:∀ H:Heap,lenAV H 1 (.sl (spRows l))=some (.int .i64 (l.length:Int)):=fun H=>by simp [lenAV]
  have ia:=ia_sp hx;have l0:=ld_fsp0 s;have ih:=rhas_L0 (G:=G) l hl p rest (i+1) hxd (by omega);have e:hasP (s::rest) p=(s.p == p||hasP rest p):=by simp only [hasP,List.any_cons]
  refine head_go (Mc.q69_L0.eq_1) ?_
  rw [vtrunc_len (n:=0) (h:=[]) rfl,e];generalize spRows l=RL at *;cases c1:(s.p == p)with
  | false=>
   simp [hq,ll,ia,l0,strBin,c1,hw,-lenAV,-loadAV];refine head_of ?_
   rw [vtrunc_len (n:=0) rfl];simpa [Rs.q69] using ih
  | true=>simp [hq,ll,ia,l0,strBin,c1,pureQ,Rs.q69,-lenAV,-loadAV]
theorem rhas_ok{G:Gam}:∀ args r,F_ment args=some r→wpM G Mc.q69 (pureQ Rs.q69 r) [] (frInit Ks.q69 args) []:=by
 intro args r hF
 unfold F_ment at hF
 split at hF
 ·rename_i rows p
  split at hF
  ·rename_i l hd
   split at hF
   ·rename_i hok
    injection hF with hF; subst hF
    obtain rfl:=spRows_of hd;have ih:=rhas_L0 (G:=G) l hok p l 0 rfl (by omega);rw [wpM_go];generalize spRows l=RL at *;simpa [Mc.q69,frInit,Ks.q69] using ih
   ·cases hF
  ·cases hF
 ·cases hF
theorem rrel_L0{G:Gam}(hM:G Fn.q69=some (.pure F_ment))(ls:List Org)(hl:ls.length≤2000000)(ol:∀ o∈ls,okO o=true)(p:Bs)(w:Org):∀ (rest:List Org) (i:Nat),ls.drop i=rest→i≤ls.length→
  headM G [] Mc.q55_L0 1 [.blk 0,.seq (.seq (.reg [kz 6 .mv [.c (.int .i64 0)],kz 7 .mv [.c (.bool false)]]) .ret)]
   (pureQ Rs.q55 (.tup [.int .i64 (if rest.any (menO p)then 2 else 0),.bool (rest.any (menO p))]))
   [(0,.agg w.cells),(1,.sl (orgRows ls)),(2,.str p),(3,.ptr 0 0),(6,.int .i64 0),(7,.bool false),(8,.int .i64 i)] [.cells w.cells]
 | [],i,hd,hi=>by
  have hi2:=drop_nil hd;have hq:ltB (i:Int) (ls.length:Int)=false:=ltB_not.2 (by omega);have ll:∀ H:Heap,lenAV H 1 (.sl (orgRows ls))=some (.int .i64 (ls.length:Int)):=fun H=>by simp [lenAV]
  have vt:∀ fr,trunc 1 fr [.cells w.cells]=[.cells w.cells]:=fun fr=>vtrunc_len rfl
  refine head_go (Mc.q55_L0.eq_1) ?_
  rw [vt];generalize w.cells=CS at *;simp [hq,ll,pureQ,Rs.q55,-lenAV]
 | o::rest,i,hd,hi=>by
  obtain ⟨hlt,hx,hxd⟩:=drop_cons hd;have hmem:o∈ls:=List.mem_of_getElem? hx;obtain ⟨q1,q2,q3⟩:=okO_of (ol o hmem);have hq:ltB (i:Int) (ls.length:Int)=true:=ltB_iff.2 (by omega);have hw:=wrap1 (i:=i) (by unfold big; omega);have ll:∀ H:Heap,lenAV H 1 (.sl (orgRows ls))=some (.int .i64 (ls.length:Int)):=fun H=>by simp [lenAV]
  have ia:=ia_org hx;have l0:=ld_forg0 o;have l1:=ld_forg1 o;have m0:=use_ment hM (okL_of q1).1 p;have m1:=use_ment hM (okL_of q2).1 p;have vt:∀ fr,trunc 1 fr [.cells w.cells]=[.cells w.cells]:=fun fr=>vtrunc_len rfl
  have ih:=rrel_L0 (G:=G) hM ls hl ol p w rest (i+1) hxd (by omega);have e:(o::rest).any (menO p)=(hasP o.inn p||hasP o.by_ p||rest.any (menO p)):=by simp only [List.any_cons,menO]
  refine head_go (Mc.q55_L0.eq_1) ?_
  rw [vt,e];generalize w.cells=CS at *;generalize orgRows ls=RL at *;cases c1:hasP o.inn p with
  | true=>
   rw [c1]at m0;simp [hq,ll,ia,l0,m0,pureQ,Rs.q55,-lenAV,-loadAV]
  | false=>
   rw [c1]at m0;cases c2:hasP o.by_ p with
   | true=>
    rw [c2]at m1;simp [hq,ll,ia,l0,l1,m0,m1,pureQ,Rs.q55,-lenAV,-loadAV]
   | false=>
    rw [c2]at m1;simp [hq,ll,ia,l0,l1,m0,m1,hw,-lenAV,-loadAV];refine head_of ?_
    rw [vt];simpa [Rs.q55] using ih
theorem rrel_ok{G:Gam}(hM:G Fn.q69=some (.pure F_ment)):∀ args r,F_relate args=some r→wpM G Mc.q55 (pureQ Rs.q55 r) [] (frInit Ks.q55 args) []:=by
 intro args r hF
 unfold F_relate at hF
 split at hF
 ·rename_i cs rows p
  split at hF
  ·rename_i w ls hw hls
   split at hF
   ·rename_i hok
    injection hF with hF; subst hF
    obtain rfl:=decOrg_of hw;obtain rfl:=orgRows_of hls;obtain ⟨ow,ol,hll⟩:=hok;obtain ⟨k1,k2,k3⟩:=okO_of ow;simp only [List.all_eq_true]at ol;have ob:=fun st=>box_org (G:=G) w st []
    have m0:=use_ment hM (okL_of k1).1 p;have m1:=use_ment hM (okL_of k2).1 p;have p0:∀ tl:Heap,loadAV 1 false (.cells w.cells::tl) (.ptr 0 0)=some (.sl (spRows w.inn)):=fun tl=>ld_cell (l:=0) rfl rfl
    have p1:∀ tl:Heap,loadAV 1 false (.cells w.cells::tl) (.ptr 0 1)=some (.sl (spRows w.by_)):=fun tl=>ld_cell (l:=0) rfl rfl
    have ih:=rrel_L0 (G:=G) hM ls hll ol p w ls 0 rfl (by omega);rw [wpM_go];simp at ob;unfold relE;generalize ls.any (menO p)=c3 at *;generalize w.cells=CS at *;generalize orgRows ls=RL at *;cases c1:hasP w.inn p with
    | true=>
     rw [c1]at m0;simp [Mc.q55,frInit,Ks.q55,ob,m0,p0,pureQ,Rs.q55,-loadAV]
    | false=>
     rw [c1]at m0;cases c2:hasP w.by_ p with
     | true=>
      rw [c2]at m1;simp [Mc.q55,frInit,Ks.q55,ob,m0,m1,p0,p1,pureQ,Rs.q55,-loadAV]
     | false=>
      rw [c2]at m1;simp [Mc.q55,frInit,Ks.q55,ob,m0,m1,p0,p1,-loadAV];cases c3 <;> simpa using ih
   ·cases hF
  ·cases hF
 ·cases hF
theorem use_rel{G:Gam}{f:FuncId}(h:G f=some (.pure F_relate)){w:Org}{ls:List Org}(hw:okO w=true)(ol:ls.all okO=true)(hl:ls.length≤2000000)(p:Bs)(st:Bool)(H:Heap) :
  opV G st H (.call f) (some [.agg w.cells,.sl (orgRows ls),.str p])=some (.tup [.int .i64 (relE w ls p).1,.bool (relE w ls p).2],H):=
 op_call h (us:=[.agg w.cells,.sl (orgRows ls),.str p]) (by simp [Org.cells,viewL,view]) (by simp only [F_relate,decOrg_cells,dec_orgRows]; rw [if_pos ⟨hw,ol,hl⟩]) (.inr (by simp [ownsL,owns,Org.cells]))
end Go.Proofs.YtpefhfiehfkocaaGreatDoor
namespace Go.Proofs.YtpefhfiehfkocaaGreatDoor
open Go.RowKit Go.IntWalk
theorem use_fewO{G:Gam}(h:G Fn.q45=some (.pure F_fewO)){o:Org}(ho:okO o=true)(st:Bool)(H:Heap):opV G st H (.call Fn.q45) (some [.agg o.cells])=some (.bool (fewO o),H):=
 op_call h (us:=[.agg o.cells]) (orgAgg _ _) (by
  obtain ⟨k1,k2,k3⟩:=okO_of ho;simp only [F_fewO,decOrg_cells]; rw [if_pos ⟨(okL_of k1).1,(okL_of k2).1,(okL_of k3).1⟩]) (.inl rfl)
theorem use_awake{G:Gam}{f:FuncId}(h:G f=some (.pure F_awake))(st:Bool)(H:Heap):opV G st H (.call f) (some [])=some (.bool true,H):=
 op_call h (us:=[]) rfl rfl (.inl rfl)
def F_rls1:List AV→Heap→Option AV
 | [.agg cs],_=>match decOrg cs with
  | some o=>if okO o=true then some (.bool (!fewO o))else none
  | none=>none
 | _,_=>none
theorem rls1_ok{G:Gam}(hFw:G Fn.q45=some (.pure F_fewO)):∀ args h r,F_rls1 args h=some r→wpM G Mc.q33 (lookQ Rs.q33 r h) [] (frInit Ks.q33 args) h:=by
 intro args h r hF
 unfold F_rls1 at hF
 split at hF
 ·rename_i cs
  split at hF
  ·rename_i o ho
   split at hF
   ·rename_i hok
    injection hF with hF; subst hF
    obtain rfl:=decOrg_of ho;have ob:=fun st=>box_org (G:=G) o st h
    have la:loadAV 3 true (h++[.cells o.cells]) (.ptr h.length 0)=some (.agg o.cells):=ld_all (l:=h.length) (vs:=o.cells) (by simp) rfl;have fa:=use_fewO hFw hok;rw [wpM_go];generalize o.cells=CS at *;generalize fewO o=c at *;simp [Mc.q33,frInit,Ks.q33,ob,la,fa,lookQ,Rs.q33,owns,freezeAll,-loadAV]
   ·cases hF
  ·cases hF
 ·cases hF
def F_relates:List AV→Option AV
 | [.agg cs,.sl rows,.str _]=>match decOrg cs,decAll decOrg rows with
  | some w,some ls=>if okO w=true∧ls.all okO=true∧ls.length≤2000000 then some (.bool true)else none
  | _,_=>none
 | _=>none
theorem relates_ok{G G0:Gam}(hA:G Fn.q60=some (.pure F_awake))(hFw:G Fn.q45=some (.pure F_fewO))(hR:G Fn.q61=some (.pure F_relate))(hR':G Fn.q55=some (.pure F_relate))
  (hC:G Fn.q9=some (.gen (lookF (F_ContainsFunc true 3 G0)))) (h1:G0 Fn.q33=some (.gen (lookF F_rls1))) :
  ∀ args r,F_relates args=some r→wpM G Mc.q35 (pureQ Rs.q35 r) [] (frInit Ks.q35 args) []:=by
 intro args r hF
 unfold F_relates at hF
 split at hF
 ·rename_i cs rows p
  split at hF
  ·rename_i w ls hw hls
   split at hF
   ·rename_i hok
    injection hF with hF; subst hF
    obtain rfl:=decOrg_of hw;obtain rfl:=orgRows_of hls;obtain ⟨ow,ol,hll⟩:=hok;have ol':=ol;simp only [List.all_eq_true]at ol';have b1:=fun st=>box_org (G:=G) w st []
    have la:∀ tl:Heap,loadAV 3 true (.cells w.cells::tl) (.ptr 0 0)=some (.agg w.cells):=fun tl=>ldOrg _ rfl
    have aw:=use_awake hA;have fa:=use_fewO hFw ow;have ll:∀ H:Heap,lenAV H 1 (.sl (orgRows ls))=some (.int .i64 (ls.length:Int)):=fun H=>by simp [lenAV]
    have lp:∀ H:Heap,lenAV H 0 (.str p)=some (.int .i64 (p.length:Int)):=fun H=>by simp [lenAV]
    have cc:opV G false [.cells w.cells] (.call Fn.q9) (some [.sl (orgRows ls),.fn Fn.q33 []])=some (.bool (ls.any fun o=>!fewO o),[.cells w.cells]):=
     contains_use (G0:=G0) (xs:=ls) (e:=Org.cells) (val:=fun o=>.agg o.cells) (agg:=true) (n:=3) (p:=fun o=>!fewO o) hC (by unfold big; omega) mkOrg fun o ho=>by
      refine ask_of ?_
      simp only [callAV,h1,lookF,F_rls1,decOrg_cells];rw [if_pos (ol' o ho)];rfl
    have r1:=use_rel hR ow ol hll p;have r2:=use_rel hR' ow ol hll p;rw [wpM_go];simp at b1;cases c1:fewO w with
    | false=>
     rw [c1]at fa;generalize w.cells=CS at *;generalize orgRows ls=RL at *;simp [Mc.q35,frInit,Ks.q35,b1,la,aw,fa,pureQ,Rs.q35,-loadAV,-lenAV]
    | true=>
     rw [c1]at fa;by_cases c2:6<ls.length
     ·have q:ltB 6 (ls.length:Int)=true:=ltB_iff.2 (by omega)
      generalize w.cells=CS at *;generalize orgRows ls=RL at *;simp [Mc.q35,frInit,Ks.q35,b1,la,aw,fa,ll,q,pureQ,Rs.q35,-loadAV,-lenAV]
     ·have q:ltB 6 (ls.length:Int)=false:=ltB_not.2 (by omega)
      cases c3:ls.any (fun o=>!fewO o)with
      | true=>
       rw [c3]at cc;generalize w.cells=CS at *;generalize orgRows ls=RL at *;simp [Mc.q35,frInit,Ks.q35,b1,la,aw,fa,ll,q,cc,pureQ,Rs.q35,-loadAV,-lenAV]
      | false=>
       rw [c3]at cc;by_cases c4:300<p.length
       ·have q2:ltB 300 (p.length:Int)=true:=ltB_iff.2 (by omega)
        generalize w.cells=CS at *;generalize orgRows ls=RL at *;simp [Mc.q35,frInit,Ks.q35,b1,la,aw,fa,ll,lp,q,q2,cc,pureQ,Rs.q35,-loadAV,-lenAV]
       ·have q2:ltB 300 (p.length:Int)=false:=ltB_not.2 (by omega)
        have qe:∀ x:Int,eqB x x=true:=fun x=>eqB_iff.2 rfl
        generalize relE w ls p=R at *;obtain ⟨k,b⟩:=R;generalize w.cells=CS at *;generalize orgRows ls=RL at *;cases b <;> simp [Mc.q35,frInit,Ks.q35,b1,la,aw,fa,ll,lp,q,q2,cc,r1,r2,pureQ,Rs.q35,-loadAV,-lenAV]
   ·cases hF
  ·cases hF
 ·cases hF
end Go.Proofs.YtpefhfiehfkocaaGreatDoor
