/- The law OriginSets. -/
import Derived.Test.YtbfcbkjemlgnpaaGreatDoorOF
import Derived.Test.YtbfcbkjemlgnpaaGreatDoorOE
import Derived.Test.YtbfcbkjemlgnpaaGreatDoorRmB
namespace Go.Proofs.YtbfcbkjemlgnpaaGreatDoor
open Go.RowKit Go.IntWalk
theorem V_few{o:Org}(h:fewO o=true):smO o=true:=by
 simp only [fewO,Bool.and_eq_true]at h
 have k:∀ l:List Sp,fewL l=true→okL l=true∧l.length≤100000:=fun l hl=>by
  simp only [fewL,Bool.and_eq_true,decide_eq_true_eq,List.all_eq_true]at hl;refine ⟨?_,by omega⟩
  simp only [okL,Bool.and_eq_true,decide_eq_true_eq,List.all_eq_true];exact ⟨by omega,fun s hs=>by have:=hl.2 s hs; simp [okS]; omega⟩
 obtain ⟨a1,a2⟩:=k _ h.1.1
 obtain ⟨b1,b2⟩:=k _ h.1.2
 obtain ⟨c1,c2⟩:=k _ h.2
 simp [smO,okO,a1,a2,b1,b2,c1,c2]
theorem joinO_ok{a b:List Sp}(ha:validO a=true)(hb:validO b=true)(la:a.length≤400000)(lb:b.length≤400000):okL (joinO a b)=true:=
 valid_ok (join_valid ha hb).1 (by have:=join_len ha hb; omega)
theorem okO_un{a b:Org}(ha:smO a=true)(hb:smO b=true):okO (unE a b).1=true:=by
 obtain ⟨a1,a2,a3,a4⟩:=smO_of ha
 obtain ⟨b1,b2,b3,b4⟩:=smO_of hb
 unfold unE
 split
 ·rename_i h
  simp only [Bool.and_eq_true]at h;obtain ⟨x1,x2,x3⟩:=oValid_of h.1;obtain ⟨y1,y2,y3⟩:=oValid_of h.2;simp [okO,joinO_ok x1 y1 (by omega) (by omega),joinO_ok x2 y2 (by omega) (by omega),joinO_ok x3 y3 (by omega) (by omega)]
 ·rfl
theorem lin_ok{a:Org}(ha:smO a=true)(hv:oValid a=true):okL (linE a)=true∧validO (linE a)=true:=by
 obtain ⟨a1,a2,a3,a4⟩:=smO_of ha
 obtain ⟨x1,x2,x3⟩:=oValid_of hv
 have j1:=(join_valid x2 x3).1
 have j2:=join_len x2 x3
 exact ⟨joinO_ok x1 j1 (by omega) (by omega),(join_valid x1 j1).1⟩
theorem okO_thr{a:Org}(ha:smO a=true)(r:Int):okO (thrE a r).1=true:=by
 obtain ⟨a1,a2,a3,a4⟩:=smO_of ha
 obtain ⟨k1,k2,k3⟩:=okO_of a1
 unfold thrE
 split
 ·rename_i hv
  obtain ⟨x1,x2,x3⟩:=oValid_of hv;split
  ·rfl
  ·simp only [becE]
   split
   ·simp [okO,(lin_ok ha hv).1,show okL []=true from rfl]
   ·split
    ·simp [okO,k2,joinO_ok x1 x3 (by omega) (by omega),show okL []=true from rfl]
    ·exact a1
 ·rfl
theorem all_len{a:Org}(ha:smO a=true):(allE a).1.length≤1000000:=by
 unfold allE
 split
 ·rename_i hv; exact (okL_of (lin_ok ha hv).1).1
 ·simp
theorem routes_len(o:Org)(x:Ln):(routesE o x).length≤1000000:=by
 unfold routesE
 split
 ·have:([1,2,3].filter fun r=>hasO (setN o r) x).length≤[1,2,3].length:=List.length_filter_le _ _
  simp at this ⊢; omega
 ·simp
theorem use_fewO{G:Gam}(h:G Fn.q51=some (.pure F_fewO)){o:Org}(ho:okO o=true)(st:Bool)(H:Heap):opV G st H (.call Fn.q51) (some [.agg o.cells])=some (.bool (fewO o),H):=
 op_call h (us:=[.agg o.cells]) (orgAgg _ _) (by
  obtain ⟨k1,k2,k3⟩:=okO_of ho;simp only [F_fewO,decOrg_cells]; rw [if_pos ⟨(okL_of k1).1,(okL_of k2).1,(okL_of k3).1⟩]) (.inl rfl)
theorem use_sameO{G:Gam}(h:G Fn.q50=some (.pure F_sameO)){o:Org}(ho:okO o=true)(st:Bool)(H:Heap):opV G st H (.call Fn.q50) (some [.agg o.cells,.agg o.cells])=some (.bool true,H):=
 op_call h (us:=[.agg o.cells,.agg o.cells]) (by simp [Org.cells,viewL,view]) (by
  simp only [F_sameO,decOrg_cells]; rw [if_pos ⟨ho,ho⟩]; simp) (.inl rfl)
theorem use_un{G:Gam}{f:FuncId}(h:G f=some (.pure F_oUn)){a b:Org}(ha:smO a=true)(hb:smO b=true)(st:Bool)(H:Heap):opV G st H (.call f) (some [.agg a.cells,.agg b.cells])=some (.tup [.agg (unE a b).1.cells,.int .i64 (unE a b).2],H):=
 op_call h (us:=[.agg a.cells,.agg b.cells]) (by simp [Org.cells,viewL,view]) (by simp only [F_oUn,decOrg_cells]; rw [if_pos ⟨ha,hb⟩]) (.inr (by simp [ownsL,owns,Org.cells]))
theorem use_thr{G:Gam}{f:FuncId}(h:G f=some (.pure F_oThr)){a:Org}(ha:smO a=true)(r:Int)(st:Bool)(H:Heap):opV G st H (.call f) (some [.agg a.cells,.int .i64 r])=some (.tup [.agg (thrE a r).1.cells,.int .i64 (thrE a r).2],H):=
 op_call h (us:=[.agg a.cells,.int .i64 r]) (by simp [Org.cells,viewL,view]) (by simp only [F_oThr,decOrg_cells]; rw [if_pos ha]) (.inr (by simp [ownsL,owns,Org.cells]))
theorem use_all{G:Gam}{f:FuncId}(h:G f=some (.pure F_oAll)){a:Org}(ha:smO a=true)(st:Bool)(H:Heap):opV G st H (.call f) (some [.agg a.cells])=some (.tup [.sl (spRows (allE a).1),.int .i64 (allE a).2],H):=
 op_call h (us:=[.agg a.cells]) (orgAgg _ _) (by simp only [F_oAll,decOrg_cells]; rw [if_pos ha]) (.inr (by simp [ownsL,owns,Org.cells]))
theorem use_awake{G:Gam}{f:FuncId}(h:G f=some (.pure F_awake))(st:Bool)(H:Heap):opV G st H (.call f) (some [])=some (.bool true,H):=
 op_call h (us:=[]) rfl rfl (.inl rfl)
theorem stOrg{H:Heap}{l:Nat}{o:Org}{vs:List AV}(h:H[l]?=some (.cells vs))(hv:vs.length=3):stAV 3 H (.ptr l 0) (.agg o.cells)=some (H.set l (.cells o.cells)):=st_all h hv rfl (by omega) rfl
def F_sets:List AV→Option AV
 | [.agg ca,.agg cb,.int .i64 _,.agg lr]=>match decOrg ca,decOrg cb,decLn lr with
  | some a,some b,some x=>if okO a=true∧okO b=true∧x.p.length≤1000000000 then some (.bool true)else none
  | _,_,_=>none
 | _=>none
theorem sets_ok{G:Gam}(hA:G Fn.q70=some (.pure F_awake))(hFw:G Fn.q51=some (.pure F_fewO))(hU:G Fn.q108=some (.pure F_oUn))(hU':G Fn.q71=some (.pure F_oUn))(hT:G Fn.q89=some (.pure F_oThr))(hT':G Fn.q60=some (.pure F_oThr))
  (hL:G Fn.origin_All=some (.pure F_oAll)) (hL':G Fn.q90=some (.pure F_oAll)) (hV:G Fn.q109=some (.pure F_oValid)) (hV':G Fn.q72=some (.pure F_oValid)) (hS:G Fn.q50=some (.pure F_sameO)) (hE:G Fn.q24=some (.pure F_same))
  (hR:G Fn.q99=some (.pure F_routes)) (hR':G Fn.q62=some (.pure F_routes)) (hI:G Fn.q38=some (.pure F_eqI)) :
  ∀ args r,F_sets args=some r→wpM G Mc.q49 (pureQ Rs.q49 r) [] (frInit Ks.q49 args) []:=by
 intro args r hF
 unfold F_sets at hF
 split at hF
 ·rename_i ca cb rt lr
  split at hF
  ·rename_i a b x ha hb hx
   split at hF
   ·rename_i hok
    injection hF with hF; subst hF
    obtain rfl:=decOrg_of ha;obtain rfl:=decOrg_of hb;obtain rfl:=decLn_of hx;obtain ⟨oa,ob_,hxl⟩:=hok;have b1:=fun st=>box_org (G:=G) a st []
    have b2:=fun st=>box_org (G:=G) b st [.cells a.cells]
    have b3:=fun st=>box_ln (G:=G) x st [.cells a.cells,.cells b.cells]
    have la:∀ tl:Heap,loadAV 3 true (.cells a.cells::tl) (.ptr 0 0)=some (.agg a.cells):=fun tl=>ldOrg _ rfl
    have lb:∀ tl:Heap,loadAV 3 true (.cells a.cells::.cells b.cells::tl) (.ptr 1 0)=some (.agg b.cells):=fun tl=>ldOrg _ rfl
    have lx:∀ tl:Heap,loadAV 2 true (.cells a.cells::.cells b.cells::.cells x.row::tl) (.ptr 2 0)=some (.agg x.row):=fun tl=>ld_all (l:=2) (vs:=x.row) rfl rfl
    have lp:∀ tl:Heap,loadAV 1 false (.cells a.cells::.cells b.cells::.cells x.row::tl) (.ptr 2 0)=some (.str x.p):=fun tl=>ld_cell (l:=2) (vs:=x.row) rfl rfl
    have ll:∀ H:Heap,lenAV H 0 (.str x.p)=some (.int .i64 (x.p.length:Int)):=fun H=>by simp [lenAV]
    have aw:=use_awake hA;have fa:=use_fewO hFw oa;have fb:=use_fewO hFw ob_;rw [wpM_go];simp at b1 b2 b3;cases c1:fewO a with
    | false=>
     rw [c1]at fa;generalize a.cells=CA at *;generalize b.cells=CB at *;generalize x.row=CX at *;simp [Mc.q49,Ks.q49,frInit,b1,b2,b3,la,aw,fa,pureQ,Rs.q49,-loadAV]
    | true=>
     rw [c1]at fa;cases c2:fewO b with
     | false=>
      rw [c2]at fb;generalize a.cells=CA at *;generalize b.cells=CB at *;generalize x.row=CX at *;simp [Mc.q49,Ks.q49,frInit,b1,b2,b3,la,lb,aw,fa,fb,pureQ,Rs.q49,-loadAV]
     | true=>
      rw [c2]at fb;by_cases c3:200<x.p.length
      ·have q:ltB 200 (x.p.length:Int)=true:=ltB_iff.2 (by omega)
       generalize a.cells=CA at *;generalize b.cells=CB at *;generalize x.row=CX at *;simp [Mc.q49,Ks.q49,frInit,b1,b2,b3,la,lb,lp,ll,q,aw,fa,fb,pureQ,Rs.q49,-loadAV,-lenAV]
      ·have q:ltB 200 (x.p.length:Int)=false:=ltB_not.2 (by omega)
       have sa:=V_few c1;have sb:=V_few c2;have u1:=use_un hU sa sb;have u2:=use_un hU' sa sb;have t1:=use_thr hT sa rt;have t2:=use_thr hT' sa rt;have l1:=use_all hL sa;have l2:=use_all hL' sa;have v1:=use_oValid hV oa;have v2:=use_oValid hV' oa;have so1:=use_sameO hS (okO_un sa sb);have so2:=use_sameO hS (okO_thr sa rt);have eq1:=use_same hE (all_len sa) (all_len sa);rw [decide_eq_true rfl]at eq1;have r1:=use_routes hR oa x;have r2:=use_routes hR' oa x;have ei:∀ st H,opV G st H (.call Fn.q38) (some [.sl ((routesE a x).map eI),.sl ((routesE a x).map eI)])=some (.bool (decide (routesE a x=routesE a x)),H):=use_eqI hI (routes_len a x) (routes_len a x)
       rw [decide_eq_true rfl]at ei;have s3:stAV 3 [.cells a.cells,.cells b.cells,.cells x.row,.cells [.nils,.nils,.nils]] (.ptr 3 0) (.agg (unE a b).1.cells)=some [.cells a.cells,.cells b.cells,.cells x.row,.cells (unE a b).1.cells]:=stOrg (l:=3) rfl rfl;have s4:stAV 3 [.cells a.cells,.cells b.cells,.cells x.row,.cells (unE a b).1.cells,.cells [.nils,.nils,.nils]] (.ptr 4 0) (.agg (unE a b).1.cells)=some [.cells a.cells,.cells b.cells,.cells x.row,.cells (unE a b).1.cells,.cells (unE a b).1.cells]:=stOrg (l:=4) rfl rfl;have s5:stAV 3 [.cells a.cells,.cells b.cells,.cells x.row,.cells (unE a b).1.cells,.cells (unE a b).1.cells,.cells [.nils,.nils,.nils]] (.ptr 5 0) (.agg (thrE a rt).1.cells)=some [.cells a.cells,.cells b.cells,.cells x.row,.cells (unE a b).1.cells,.cells (unE a b).1.cells,.cells (thrE a rt).1.cells]:=stOrg (l:=5) rfl rfl;have s6:stAV 3 [.cells a.cells,.cells b.cells,.cells x.row,.cells (unE a b).1.cells,.cells (unE a b).1.cells,.cells (thrE a rt).1.cells,.cells [.nils,.nils,.nils]] (.ptr 6 0) (.agg (thrE a rt).1.cells)=some [.cells a.cells,.cells b.cells,.cells x.row,.cells (unE a b).1.cells,.cells (unE a b).1.cells,.cells (thrE a rt).1.cells,.cells (thrE a rt).1.cells]:=stOrg (l:=6) rfl rfl;have d3:∀ tl:Heap,loadAV 3 true (.cells a.cells::.cells b.cells::.cells x.row::.cells (unE a b).1.cells::tl) (.ptr 3 0)=some (.agg (unE a b).1.cells):=fun tl=>ldOrg (l:=3) _ rfl
       have d4:∀ tl:Heap,loadAV 3 true (.cells a.cells::.cells b.cells::.cells x.row::.cells (unE a b).1.cells::.cells (unE a b).1.cells::tl) (.ptr 4 0)=some (.agg (unE a b).1.cells):=fun tl=>ldOrg (l:=4) _ rfl
       have d5:∀ tl:Heap,loadAV 3 true (.cells a.cells::.cells b.cells::.cells x.row::.cells (unE a b).1.cells::.cells (unE a b).1.cells::.cells (thrE a rt).1.cells::tl) (.ptr 5 0)=some (.agg (thrE a rt).1.cells):=fun tl=>ldOrg (l:=5) _ rfl
       have d6:∀ tl:Heap,loadAV 3 true (.cells a.cells::.cells b.cells::.cells x.row::.cells (unE a b).1.cells::.cells (unE a b).1.cells::.cells (thrE a rt).1.cells::.cells (thrE a rt).1.cells::tl) (.ptr 6 0)=some (.agg (thrE a rt).1.cells):=fun tl=>ldOrg (l:=6) _ rfl
       have q1:eqB (unE a b).2 (unE a b).2=true:=eqB_iff.2 rfl;have q2:eqB (thrE a rt).2 (thrE a rt).2=true:=eqB_iff.2 rfl;have q3:eqB (allE a).2 (allE a).2=true:=eqB_iff.2 rfl;have bb:∀ (v:Bool) st H,opV G st H (.eqB false) (some [.bool v,.bool v])=some (.bool true,H):=fun v st H=>by rw [opV_quiet rfl]; simp [evalPure]
       generalize (unE a b).1.cells=CU at *;generalize (unE a b).2=EU at *;generalize (thrE a rt).1.cells=CT at *;generalize (thrE a rt).2=ET at *;generalize spRows (allE a).1=RA at *;generalize (allE a).2=EA at *;generalize (routesE a x).map eI=RR at *;generalize oValid a=VA at *;generalize a.cells=CA at *;generalize b.cells=CB at *;generalize x.row=CX at *;simp [Mc.q49,Ks.q49,frInit,b1,b2,b3,la,lb,lx,lp,ll,q,aw,fa,fb,u1,u2,t1,t2,l1,l2,v1,v2,so1,so2,eq1,r1,r2,ei,s3,s4,s5,s6,d3,d4,d5,d6,bb,pureQ,Rs.q49,-loadAV,-lenAV,-stAV_ptr]
   ·cases hF
  ·cases hF
 ·cases hF
end Go.Proofs.YtbfcbkjemlgnpaaGreatDoor
