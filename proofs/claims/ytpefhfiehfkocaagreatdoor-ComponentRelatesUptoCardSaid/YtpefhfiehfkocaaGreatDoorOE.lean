/- The reference: List,Pack,Join. The reference: Pack,Join. origin.Through,All. The reference: Join,Lines,Become,Union,Through,All of origins. Equality of sets and of lists of numbers,sizes,pl -/
import Derived.Test.YtpefhfiehfkocaaGreatDoorOD
namespace Go.Proofs.YtpefhfiehfkocaaGreatDoor
open Go.RowKit Go.IntWalk
section
variable {os:List Sp} {cur:Sp} {dn:List Sp}
end
end Go.Proofs.YtpefhfiehfkocaaGreatDoor
namespace Go.Proofs.YtpefhfiehfkocaaGreatDoor
open Go.RowKit Go.IntWalk
end Go.Proofs.YtpefhfiehfkocaaGreatDoor
namespace Go.Proofs.YtpefhfiehfkocaaGreatDoor
open Go.RowKit Go.IntWalk
theorem oThr_ok{G:Gam}(hV:G Fn.q87=some (.pure F_oValid))(hU:G Fn.q88=some (.pure F_oUnion)):∀ args r,F_oThr args=some r→wpM G Mc.q70 (pureQ Rs.q70 r) [] (frInit Ks.q70 args) []:=by
 intro args r hF
 unfold F_oThr at hF
 split at hF
 ·rename_i ca rt
  split at hF
  ·rename_i a ha
   split at hF
   ·rename_i hok
    injection hF with hF; subst hF
    obtain rfl:=decOrg_of ha;obtain ⟨a1,a2,a3,a4⟩:=smO_of hok;have ob:=fun st=>box_org (G:=G) a st []
    have la:∀ x:Blk,loadAV 3 true [.cells a.cells,x] (.ptr 0 0)=some (.agg a.cells):=fun x=>ldOrg _ rfl
    have pa0:∀ tl:Heap,loadAV 1 false (.cells a.cells::tl) (.ptr 0 0)=some (.sl (spRows a.inn)):=fun tl=>ld_cell (l:=0) rfl rfl
    have pa1:∀ tl:Heap,loadAV 1 false (.cells a.cells::tl) (.ptr 0 1)=some (.sl (spRows a.by_)):=fun tl=>ld_cell (l:=0) rfl rfl
    have pa2:∀ tl:Heap,loadAV 1 false (.cells a.cells::tl) (.ptr 0 2)=some (.sl (spRows a.lst)):=fun tl=>ld_cell (l:=0) rfl rfl
    have va:=use_oValid hV a1;have bs1:∀ (x:List (List AV)) st h,opV G st h (.bsl false 1) (some [.sl x])=some (.tsl [[.sl x]],h):=fun x st h=>by rw [op_bsl rfl]; rfl
    have bs2:∀ (x y:List (List AV)) st h,opV G st h (.bsl false 1) (some [.sl x,.sl y])=some (.tsl [[.sl x],[.sl y]],h):=fun x y st h=>by rw [op_bsl rfl]; rfl
    have bs3:∀ (x y z:List (List AV)) st h,opV G st h (.bsl false 1) (some [.sl x,.sl y,.sl z])=some (.tsl [[.sl x],[.sl y],[.sl z]],h):=fun x y z st h=>by rw [op_bsl rfl]; rfl
    rw [wpM_go];simp at ob;cases ca:oValid a with
    | false=>
     rw [ca]at va;have e:thrE a rt=(oNil,1):=by simp [thrE,ca]
     rw [e,nilCells];generalize a.cells=CA at *;simp [Mc.q70,Ks.q70,frInit,ob,la,va,bldAV,pureQ,Rs.q70,-loadAV];simp [loadAV,cut,mkVal]
    | true=>
     rw [ca]at va;obtain ⟨x1,x2,x3⟩:=oValid_of ca;by_cases r1:rt=1
     ·subst r1
      obtain ⟨b,hb⟩:∃ b:Org,b=a:=⟨_,rfl⟩
      have e:thrE a 1=(b,0):=by rw [hb]; simp [thrE,ca,becE]
      have eb:b.cells=[AV.sl (spRows a.inn),.sl (spRows a.by_),.sl (spRows a.lst)]:=by rw [hb]; rfl
      have q1:eqB 1 1=true:=rfl;have u1:=use_oUnion hU (L:=[a.inn]) (by simp [x1]) (by simp [sumL]; omega) (by simp);have u2:=use_oUnion hU (L:=[a.by_]) (by simp [x2]) (by simp [sumL]; omega) (by simp);have u3:=use_oUnion hU (L:=[a.lst]) (by simp [x3]) (by simp [sumL]; omega) (by simp);rw [joinL_one x1]at u1;rw [joinL_one x2]at u2;rw [joinL_one x3]at u3;simp only [List.map_cons,List.map_nil,setRow]at u1 u2 u3;rw [e,eb];clear e eb hb;generalize a.cells=CA at *;generalize spRows a.inn=R1 at *;generalize spRows a.by_=R2 at *;generalize spRows a.lst=R3 at *;simp [Mc.q70,Ks.q70,frInit,ob,la,pa0,pa1,pa2,va,bs1,u1,u2,u3,bldAV,pureQ,Rs.q70,-loadAV,-op_bsl];simp [loadAV,cut,mkVal]
     ·have q1:eqB rt 1=false:=eqB_not.2 r1
      by_cases r2:rt=2
      ·subst r2
       have e:thrE a 2=(⟨[],linE a,[]⟩,0):=by simp [thrE,ca,becE]
       have q2:eqB 2 2=true:=rfl;have u1:=use_oUnion hU (L:=[a.inn,a.by_,a.lst]) (by simp [x1,x2,x3]) (by simp [sumL]; omega) (by simp);rw [joinL_three x1 x2 x3]at u1;simp only [List.map_cons,List.map_nil,setRow]at u1;rw [e];simp only [Org.cells,linE,show spRows []=[]from rfl];rw [show [AV.sl (spRows a.inn),.sl (spRows a.by_),.sl (spRows a.lst)]=a.cells from rfl];generalize a.cells=CA at *;generalize spRows (joinO a.inn (joinO a.by_ a.lst))=R1 at *;simp [Mc.q70,Ks.q70,frInit,ob,la,pa0,pa1,pa2,va,q1,bs3,u1,bldAV,pureQ,Rs.q70,-loadAV,-op_bsl];simp [loadAV,cut,mkVal]
      ·have q2:eqB rt 2=false:=eqB_not.2 r2
       by_cases r3:rt=3
       ·subst r3
        have e:thrE a 3=(⟨[],a.by_,joinO a.inn a.lst⟩,0):=by simp [thrE,ca,becE]
        have q3:eqB 3 3=true:=rfl;have u1:=use_oUnion hU (L:=[a.by_]) (by simp [x2]) (by simp [sumL]; omega) (by simp);have u2:=use_oUnion hU (L:=[a.inn,a.lst]) (by simp [x1,x3]) (by simp [sumL]; omega) (by simp);rw [joinL_one x2]at u1;rw [joinL_two x1 x3]at u2;simp only [List.map_cons,List.map_nil,setRow]at u1 u2;rw [e];simp only [Org.cells,show spRows []=[]from rfl];rw [show [AV.sl (spRows a.inn),.sl (spRows a.by_),.sl (spRows a.lst)]=a.cells from rfl];generalize a.cells=CA at *;generalize spRows (joinO a.inn a.lst)=R1 at *;generalize spRows a.by_=R2 at *;simp [Mc.q70,Ks.q70,frInit,ob,la,pa0,pa1,pa2,va,q1,q2,bs1,bs2,u1,u2,bldAV,pureQ,Rs.q70,-loadAV,-op_bsl];simp [loadAV,cut,mkVal]
       ·have q3:eqB rt 3=false:=eqB_not.2 r3
        have e:thrE a rt=(oNil,3):=by
         simp only [thrE,ca,if_true];rw [if_pos (by omega)]
        rw [e,nilCells];generalize a.cells=CA at *;simp [Mc.q70,Ks.q70,frInit,ob,la,va,q1,q2,q3,bldAV,pureQ,Rs.q70,-loadAV];simp [loadAV,cut,mkVal]
   ·cases hF
  ·cases hF
 ·cases hF
end Go.Proofs.YtpefhfiehfkocaaGreatDoor
namespace Go.Proofs.YtpefhfiehfkocaaGreatDoor
open Go.RowKit Go.IntWalk
theorem orgAgg(H:Heap)(o:Org):viewL H [AV.agg o.cells]=some [.agg o.cells]:=by simp [Org.cells,viewL,view]
end Go.Proofs.YtpefhfiehfkocaaGreatDoor
namespace Go.Proofs.YtpefhfiehfkocaaGreatDoor
open Go.RowKit Go.IntWalk
def fewL(l:List Sp):Bool:=decide (l.length≤12)&&l.all fun s=>decide (s.p.length≤200)
def fewO(o:Org):Bool:=fewL o.inn&&fewL o.by_&&fewL o.lst
def F_few:List AV→Option AV
 | [.sl rows]=>match decAll decSpn rows with
  | some l=>if l.length≤1000000 then some (.bool (fewL l))else none
  | none=>none
 | _=>none
theorem few_L0{G:Gam}(l:List Sp)(hl:l.length≤12):∀ (rest:List Sp) (i:Nat),l.drop i=rest→i≤l.length→
  headM G [] Mc.q68_L0 0 [.blk 0,.seq (.seq (.reg [kz 2 .mv [.c (.bool true)]]) .ret)] (pureQ Rs.q68 (.bool (rest.all fun s=>decide (s.p.length≤200))))
   [(0,.sl (spRows l)),(2,.bool false),(3,.int .i64 i)] []
 | [],i,hd,hi=>by
  have hi2:=drop_nil hd;have hq:ltB (i:Int) (l.length:Int)=false:=ltB_not.2 (by omega);have ll:∀ H:Heap,lenAV H 1 (.sl (spRows l))=some (.int .i64 (l.length:Int)):=fun H=>by simp [lenAV]
  refine head_go (Mc.q68_L0.eq_1) ?_
  simp [hq,ll,vtrunc_len (n:=0) (h:=[]) rfl,pureQ,Rs.q68,-lenAV]
 | s::rest,i,hd,hi=>by
  obtain ⟨hlt,hx,hxd⟩:=drop_cons hd;have hq:ltB (i:Int) (l.length:Int)=true:=ltB_iff.2 (by omega);have hw:=wrap1 (i:=i) (by unfold big; omega);have ll:∀ H:Heap,lenAV H 1 (.sl (spRows l))=some (.int .i64 (l.length:Int)):=fun H=>by simp [lenAV]
  have ls:∀ H:Heap,lenAV H 0 (.str s.p)=some (.int .i64 (s.p.length:Int)):=fun H=>by simp [lenAV]
  have ia:=ia_sp hx;have l0:=ld_fsp0 s;have ih:=few_L0 (G:=G) l hl rest (i+1) hxd (by omega);refine head_go (Mc.q68_L0.eq_1) ?_
  rw [vtrunc_len (n:=0) (h:=[]) rfl];by_cases h:s.p.length≤200
  ·have q2:ltB 200 (s.p.length:Int)=false:=ltB_not.2 (by omega)
   have e:(s::rest).all (fun s=>decide (s.p.length≤200))=rest.all (fun s=>decide (s.p.length≤200)):=by simp [h]
   rw [e];generalize spRows l=RA at *;simp [hq,ll,ls,ia,l0,q2,hw,-lenAV,-loadAV];refine head_of ?_
   rw [vtrunc_len (n:=0) rfl];simpa [Rs.q68] using ih
  ·have q2:ltB 200 (s.p.length:Int)=true:=ltB_iff.2 (by omega)
   have e:(s::rest).all (fun s=>decide (s.p.length≤200))=false:=by simp [h]
   rw [e];generalize spRows l=RA at *;simp [hq,ll,ls,ia,l0,q2,pureQ,Rs.q68,-lenAV,-loadAV]
theorem few_ok{G:Gam}:∀ args r,F_few args=some r→wpM G Mc.q68 (pureQ Rs.q68 r) [] (frInit Ks.q68 args) []:=by
 intro args r hF
 unfold F_few at hF
 split at hF
 ·split at hF
  ·rename_i l hd
   split at hF
   ·rename_i hok
    injection hF with hF; subst hF
    obtain rfl:=spRows_of hd;have ll:∀ H:Heap,lenAV H 1 (.sl (spRows l))=some (.int .i64 (l.length:Int)):=fun H=>by simp [lenAV]
    rw [wpM_go];by_cases h:l.length≤12
    ·have q:ltB 12 (l.length:Int)=false:=ltB_not.2 (by omega)
     have ih:=few_L0 (G:=G) l h l 0 rfl (by omega);have e:fewL l=l.all fun s=>decide (s.p.length≤200):=by simp [fewL,h]
     rw [e];generalize spRows l=RA at *;simp [Mc.q68,Ks.q68,frInit,ll,q,-lenAV];simpa using ih
    ·have q:ltB 12 (l.length:Int)=true:=ltB_iff.2 (by omega)
     have e:fewL l=false:=by simp [fewL,h]
     rw [e];generalize spRows l=RA at *;simp [Mc.q68,Ks.q68,frInit,ll,q,pureQ,Rs.q68,-lenAV]
   ·cases hF
  ·cases hF
 ·cases hF
theorem use_few{G:Gam}(h:G Fn.q68=some (.pure F_few)){l:List Sp}(hl:l.length≤1000000)(st:Bool)(H:Heap):opV G st H (.call Fn.q68) (some [.sl (spRows l)])=some (.bool (fewL l),H):=
 op_call h (us:=[.sl (spRows l)]) rfl (by simp only [F_few,dec_spRows]; rw [if_pos hl]) (.inl rfl)
def F_fewO:List AV→Option AV
 | [.agg cs]=>match decOrg cs with
  | some o=>if o.inn.length≤1000000∧o.by_.length≤1000000∧o.lst.length≤1000000 then some (.bool (fewO o))else none
  | none=>none
 | _=>none
theorem fewO_ok{G:Gam}(hF0:G Fn.q68=some (.pure F_few)):∀ args r,F_fewO args=some r→wpM G Mc.q45 (pureQ Rs.q45 r) [] (frInit Ks.q45 args) []:=by
 intro args r hF
 unfold F_fewO at hF
 split at hF
 ·split at hF
  ·rename_i cs o ho
   split at hF
   ·rename_i hok
    injection hF with hF; subst hF
    obtain rfl:=decOrg_of ho;obtain ⟨k1,k2,k3⟩:=hok;have ob:=fun st=>box_org (G:=G) o st []
    have p0:∀ tl:Heap,loadAV 1 false (.cells o.cells::tl) (.ptr 0 0)=some (.sl (spRows o.inn)):=fun tl=>ld_cell (l:=0) rfl rfl
    have p1:∀ tl:Heap,loadAV 1 false (.cells o.cells::tl) (.ptr 0 1)=some (.sl (spRows o.by_)):=fun tl=>ld_cell (l:=0) rfl rfl
    have p2:∀ tl:Heap,loadAV 1 false (.cells o.cells::tl) (.ptr 0 2)=some (.sl (spRows o.lst)):=fun tl=>ld_cell (l:=0) rfl rfl
    have v1:=use_few hF0 k1;have v2:=use_few hF0 k2;have v3:=use_few hF0 k3;rw [wpM_go];unfold fewO;simp at ob;generalize o.cells=cs at *;cases c1:fewL o.inn <;> rw [c1]at v1 <;> cases c2:fewL o.by_ <;> rw [c2]at v2 <;> cases c3:fewL o.lst <;> rw [c3]at v3 <;>
     simp [Mc.q45,Ks.q45,frInit,ob,p0,p1,p2,v1,v2,v3,pureQ,Rs.q45,-loadAV]
   ·cases hF
  ·cases hF
 ·cases hF
end Go.Proofs.YtpefhfiehfkocaaGreatDoor
