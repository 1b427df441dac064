/- A function: from its code,resolved,to what a call of it does. Functions that turn what they are handed,and forget what they have made for themselves; functions with one deferred call. The small lan -/
import Derived.Test.YtpefhfiehfkocaaGreatDoorAm7
import Derived.RangeFuncLeaves
import Derived.IntWalk
namespace Go.Proofs.YtpefhfiehfkocaaGreatDoor
open Go.RowKit
inductive RV where
 | tmp (t:Nat)
 | cell (a size:Nat) (agg:Bool)
 deriving Inhabited
def compRV(P:Program):ResultVar→Option RV
 | .tmp t=>some (.tmp t)
 | .cell a t=>match tsize P t,tagg P t with
  | some n,some g=>some (.cell a n g)
  | _,_=>none
def compRVs(P:Program):List ResultVar→Option (List RV)
 | []=>some []
 | x::xs=>match compRV P x,compRVs P xs with
  | some y,some ys=>some (y::ys)
  | _,_=>none
def resOne(e:Nat→Option AV)(h:Heap):RV→Option AV
 | .tmp t=>e t
 | .cell a size agg=>match e a with
  | some p=>loadAV size agg h p
  | none=>none
def resL(e:Nat→Option AV)(h:Heap):List RV→Option (List AV)
 | []=>some []
 | x::xs=>match resOne e h x,resL e h xs with
  | some v,some vs=>some (v::vs)
  | _,_=>none
def resAV(e:Nat→Option AV)(h:Heap)(rs:List RV):Option AV:=
 match resL e h rs with
 | some [v]=>some v
 | some vs=>some (.tup vs)
 | none=>none
def frInit:List Nat→List AV→List (Nat×AV)
 | [],_=>[]
 | k::ks,args=>(k,(args[k]?).getD .junk)::frInit ks args
def pureQ(rs:List RV)(r:AV):MPost:=fun x env fr h=>(match x with | .exit _=>False | _=>True)∧∃ v,resAV (getT env fr) h rs=some v∧view h v=some r
def pureKQ(rs:List RV)(r:AV):MPost:=fun x env fr h=>(match x with | .exit _=>False | _=>True)∧∃ v,resAV (getT env fr) h rs=some v∧viewK h v=some r
def genQ(rs:List RV)(r:AV)(h':Heap):MPost:=fun x env fr h=>(match x with | .exit _=>False | _=>True)∧resAV (getT env fr) h rs=some r∧h=h'
section
variable {P:Program} {B:Base} {C D:Cx} {h:Heap} {w w':World} {G:Gam} {a:Act}
theorem resOne_sound(hi:Inv B C h w){e:Nat→Option AV}(hr:RelT C e a){x:ResultVar}{y:RV}{v:AV}(hc:compRV P x=some y)(hv:resOne e h y=some v) :
  ∃ u,Rel C v u∧(match x with | .tmp t=>(pure (a.tmps.getD t undef):Sem Value) | .cell b t=>do loadVar t (← asAddr (a.tmps.getD b undef))).run P w=.ok u w:=by
 cases x with
 | tmp t=>
  simp only [compRV,Option.some.injEq]at hc; subst hc;obtain ⟨u,h1,h2⟩:=hr t v hv;exact ⟨u,h2,by simp [h1]⟩
 | cell b t=>
  simp only [compRV]at hc;split at hc
  ·rename_i n g hn hg
   simp only [Option.some.injEq]at hc; subst hc;simp only [resOne]at hv;split at hv
   ·rename_i p hp
    obtain ⟨x,h1,h2⟩:=hr b p hp;obtain ⟨u,k1,k2⟩:=loadAV_sound hi hg hn h2 hv;have k3:=k2 w (Below.refl _ _);have hx:∃ ad,x=.pointer (some ad):=by
     cases h2 <;> simp [loadAV]at hv <;> exact ⟨_,rfl⟩
    obtain ⟨ad,rfl⟩:=hx;refine ⟨u,k1,?_⟩
    simp only [Instr.loadAt,Instr.sureAddr,Sem.run_bind,Sem.run_pure,Result.andThen_ok]at k3;simp [h1,asAddr,k3]
   ·cases hv
  ·cases hc
theorem resL_sound(hi:Inv B C h w){e:Nat→Option AV}(hr:RelT C e a):∀ {xs:List ResultVar} {ys:List RV} {vs:List AV},compRVs P xs=some ys→resL e h ys=some vs→
  ∃ us,RelL C vs us∧(xs.mapM (m:=Sem) fun | .tmp t=>(pure (a.tmps.getD t undef):Sem Value) | .cell b t=>do loadVar t (← asAddr (a.tmps.getD b undef))).run P w=.ok us w
 | [],ys,vs,hc,hv=>by
  simp [compRVs]at hc; subst hc;simp [resL]at hv; subst hv;exact ⟨[],.nil,by simp⟩
 | x::xs,ys,vs,hc,hv=>by
  simp only [compRVs]at hc;split at hc
  ·rename_i y ys' h1 h2
   injection hc with hc; subst hc
   simp only [resL]at hv;split at hv
   ·rename_i v vs' h3 h4
    injection hv with hv; subst hv
    obtain ⟨u,k1,k2⟩:=resOne_sound hi hr h1 h3;obtain ⟨us,k3,k4⟩:=resL_sound hi hr h2 h4;refine ⟨u::us,.cons k1 k3,?_⟩
    rw [List.mapM_cons,Sem.run_bind,k2,Result.andThen_ok,Sem.run_bind,k4];simp
   ·cases hv
  ·cases hc
theorem resAV_sound(hi:Inv B C h w){e:Nat→Option AV}(hr:RelT C e a){fn:Func}{ys:List RV}{v:AV}(hc:compRVs P fn.results.toList=some ys)(hv:resAV e h ys=some v) :
  ∃ u,Rel C v u∧(results fn a.tmps).run P w=.ok u w:=by
 unfold resAV at hv
 have run:∀ us:List Value,(fn.results.toList.mapM (m:=Sem) fun | .tmp t=>(pure (a.tmps.getD t undef):Sem Value) | .cell b t=>do loadVar t (← asAddr (a.tmps.getD b undef))).run P w=.ok us w→
   (results fn a.tmps).run P w=.ok (if h:us.toArray.size=1 then us.toArray[0]else .tuple us.toArray) w:=fun us hu=>by
  unfold results;rw [Array.mapM_eq_mapM_toList];simp only [bind_map_left,Sem.run_bind,Sem.run_pure];exact (congrArg (fun r=>Result.andThen r _) hu).trans rfl
 split at hv
 ·rename_i x hx
  injection hv with hv; subst hv
  obtain ⟨us,k1,k2⟩:=resL_sound hi hr hc hx;obtain ⟨u,us',rfl,k3,k4⟩:=k1.inv_cons;have:=k4.inv_nil; subst this;exact ⟨u,k3,by rw [run _ k2]; simp⟩
 ·rename_i vs hne hx
  injection hv with hv; subst hv
  obtain ⟨us,k1,k2⟩:=resL_sound hi hr hc hx;refine ⟨.tuple us.toArray,.tup _ _ (by simpa using k1.1) (fun i c u hc hu=>k1.2 i c u hc (by simpa using hu)),?_⟩
  rw [run _ k2];have:us.length≠1:=fun e=>by
   have hl:=k1.1;rw [e]at hl;match vs,hl with
   | [y],_=>exact hne y rfl
  rw [dif_neg (by simpa using this)]
 ·cases hv
theorem lkp_frInit(args:List AV):∀ (ks:List Nat) (t:Nat) (x:AV),lkp t (frInit ks args)=some x→t∈ks∧x=(args[t]?).getD .junk
 | [],t,x,h=>by simp [frInit,lkp]at h
 | k::ks,t,x,h=>by
  simp only [frInit,lkp]at h;split at h
  ·rename_i e; subst e; injection h with h; exact ⟨by simp,h.symm⟩
  ·have:=lkp_frInit args ks t x h; exact ⟨by simp [this.1],this.2⟩
theorem start_ok(hi:Inv B C h w){ks:List Nat}{n:Nat}(hks:ks.all (fun k=>decide (k<n))=true){args:List AV}{vals:Array Value}(hr:RelL C args vals.toList) :
  StOK ks n B C [] (frInit ks args) h { tmps:=vals++Array.replicate (n-vals.size) undef,defers:=[] } w:=by
 have hsz:n≤(vals++Array.replicate (n-vals.size) undef).size:=by simp; omega
 refine ⟨hi,fun t x hx=>?_,fun t v hx=>by simp [lkp]at hx,fun t v hx=>?_,hsz⟩
 ·have hx':lkp t (frInit ks args)=some x:=hx
  obtain ⟨h1,rfl⟩:=lkp_frInit args ks t x hx';have ht:t<n:=by simpa using List.all_eq_true.1 hks t h1
  cases ha:args[t]? with
  | some c=>
   obtain ⟨u,k1,k2⟩:=hr.get ha;have hlt:t<vals.size:=by have:=(List.getElem?_eq_some_iff.1 k1).1; simpa using this
   refine ⟨u,?_,k2⟩
   show (vals++Array.replicate (n-vals.size) undef)[t]?=some u
   rw [Array.getElem?_append_left hlt];simpa using k1
  | none=>
   have hlt:t<(vals++Array.replicate (n-vals.size) undef).size:=by omega
   exact ⟨(vals++Array.replicate (n-vals.size) undef)[t],by simp,.junk _⟩
 ·have:=(lkp_frInit args ks t v hx).1
  simpa using this
theorem blockOf_obj{l b:Nat}{blk:Blk}(hk:BlkOK B C w l blk)(hb:blockOf C l blk=some b):∃ o,w.heap[b]?=some o∧∀ c,o≠.deferred c:=by
 cases blk with
 | cellsT tg vs=>
  obtain ⟨b',cur,e,h1,h2,h3,_⟩:=hk;simp only [blockOf,h1,Option.some.injEq]at hb; subst hb; exact ⟨_,h3,fun c=>by simp⟩
 | arrX ne tg sz ver rows wr=>
  rcases hk with ⟨h1,h2⟩ | ⟨r,cur,h1,h2,_,_,_,h6,_⟩
  ·simp [blockOf,h1]at hb
  ·simp only [blockOf,h1,Option.some.injEq]at hb; subst hb; exact ⟨_,h6,fun c=>by simp⟩
 | map es=>
  obtain ⟨b',ms,ck,h1,h2,h3,_⟩:=hk;simp only [blockOf,h1,Option.some.injEq]at hb; subst hb; exact ⟨_,h3,fun c=>by simp⟩
 | iter s pos=>
  obtain ⟨b',h1,h2,h3⟩:=hk;simp only [blockOf,h1,Option.some.injEq]at hb; subst hb; exact ⟨_,h3,fun c=>by simp⟩
 | lp bz x=>
  obtain ⟨b',r,h1,h2,_,h3⟩:=hk;simp only [blockOf,h1,Option.some.injEq]at hb; subst hb; exact ⟨_,h3,fun c=>by simp⟩
 | mit m n seen last=>
  obtain ⟨b',mo,h1,h2,h3,_⟩:=hk;simp only [blockOf,h1,Option.some.injEq]at hb; subst hb; exact ⟨_,h3,fun c=>by simp⟩
 | dead=>simp [blockOf]at hb
theorem inv_sys(hi:Inv B C h w){k:Nat}{c:Option (List Deferred)}(hk:w.heap[k]?=some (.deferred c))(o:Obj):Inv B C h (World.put w k o):=by
 refine ⟨fun b i u hu=>?_,hi.one,fun l blk hb=>?_,hi.inj,hi.fr,hi.fv,by rw [put_size]; exact hi.hB,hi.low,hi.gl,fun g cs hg=>(by
   obtain ⟨h1,T,fz,h2⟩:=hi.tb g cs hg;exact ⟨h1,T,fz,by rw [put_other (fun e=>by subst e; rw [hk]at h2; cases h2)]; exact h2⟩),hi.rcl,hi.cle⟩
 ·have hc:=hi.im b i u hu
  refine put_cell (fun e=>?_) hc
  subst e;simp [World.cell?,hk]at hc
 ·refine (hi.ok l blk hb).stay (.refl C) fun b hbo=>⟨put_other fun e=>?_,fun _=>rfl⟩
  subst e;obtain ⟨o2,q1,q2⟩:=blockOf_obj (hi.ok l blk hb) hbo;rw [hk]at q1; injection q1 with q1
  exact q2 c q1.symm
theorem leave_marks{fn:Func}{tmps:Array Value}{R:Ending→World→Prop}{w0:World}(hB:B.n≤w0.heap.size)(fin:∀ w2,Inv B C h w2→Keep B w0 w2→∃ v,(results fn tmps).run P w2=.ok v w2∧R (.returned v) w2) :
  ∀ (Ds:List Nat) (w:World),Inv B C h w→Keep B w0 w→Marks w0 Ds w→LeavesInM Fence.wide 0 P fn tmps R (Ds.map mark) .returning w
 | [],w,hi,hk,_=>fin w hi hk
 | D::Ds,w,hi,hk,hm=>by
  obtain ⟨h1,h2⟩:=hm.there D (by simp);refine ⟨by simp,.inl ⟨D,_,rfl,run_takeDeferred h2,?_⟩⟩
  refine leave_marks hB fin Ds _ (inv_sys hi h2 _) ⟨?_,fun k c hc=>?_⟩ ⟨(List.nodup_cons.1 hm.nodup).2,fun E hE=>?_⟩
  ·exact hk.below.trans ⟨rfl,rfl,rfl,by simp,fun k hk=>World.putObj_heap_other (by omega)⟩
  ·have:k≠D:=fun e=>by subst e; have:=heap_lt hc; omega
   exact (World.putObj_heap_other this).trans (hk.sys k c hc)
  ·have:E≠D:=fun e=>by subst e; exact (List.nodup_cons.1 hm.nodup).1 hE
   exact ⟨(hm.there E (by simp [hE])).1,(World.putObj_heap_other this).trans (hm.there E (by simp [hE])).2⟩
theorem calls_of_post{f:FuncId}{fn:Func}{c:Code}(hf:P.funcs[f]?=some fn)(hb:fn.body=some c){ks:List Nat}{C0:Cx}{Q:MPost}{args:Array Value}{R:Ending→World→Prop}(hB:B.n≤w.heap.size)
  (hw:c.wpIn (fR none) 0 P (Post ks fn.ntmps B C0 w [] Q) { tmps:=args++Array.replicate (fn.ntmps-args.size) undef,defers:=[] } w)
  (fin:∀ x env fr h C a w2,Q x env fr h→StOK ks fn.ntmps B C env fr h a w2→C0.Le C→Keep B w w2→(match x with | .exit _=>False | _=>True)∧∃ v,(results fn a.tmps).run P w2=.ok v w2∧R (.returned v) w2):Calls P f args w R:=by
 refine (callsIn_wide (n:=0)).1 (callsIn_of_wp_marks (F:=Fence.wide) hf hb trivial (wpIn_mono hw fun e a w2 hp=>?_))
 obtain ⟨x,env,fr,h2,C2,k1,k2,k3,k4⟩:=hp
 obtain ⟨Ds,hD,hM⟩:=k4.ds
 have out:LeavesInM Fence.wide 0 P fn a.tmps R a.defers .returning w2:=by
  rw [hD,List.append_nil];exact leave_marks hB (fun w3 hi hk=>(fin x env fr h2 C2 a w3 k2 ⟨hi,k3.rel,k3.sep,k3.keys,k3.size⟩ k4.le hk).2) Ds w2 k3.inv k4.keep hM
 cases x with
 | normal=>cases e <;> simp only [MX.is]at k1; exact out
 | ret=>cases e <;> simp only [MX.is]at k1; exact out
 | exit i=>exact (fin (.exit i) env fr h2 C2 a w2 k2 k3 k4.le k4.keep).1.elim
theorem pure_of(hm:P.follows .mixedOrders=true){gv:Gv}(hG:GamOK P gv G){f:FuncId}{fn:Func}{c:Code}(hf:P.funcs[f]?=some fn)(hb:fn.body=some c){ks ow:List Nat}{dl:List (List Nat)}{rs:List RV}{mc:MC}
  (hks:ks.all (fun k=>decide (k<fn.ntmps))=true) (hrs:compRVs P fn.results.toList=some rs) (hmc:(compC P gv ks fn.ntmps ow c dl).1=mc) {F:List AV→Option AV}
  (hF:∀ args r,F args=some r→wpM G mc (pureQ rs r) [] (frInit ks args) []):PureOK P gv f F:=by
 intro I w args r vals hI hgl hr hF'
 have hinv:Inv ⟨w.heap.size,I,gv,fun _=>none,Cx.pure fun _ _=>none⟩ (Cx.pure I) [] w:=⟨hI.cell,hI.one,fun l blk hb=>by simp at hb,fun l l' blk blk' b hb=>by simp at hb,fun l _=>⟨rfl,fun _=>rfl⟩,fun l ne tg sz ver rows wr hb=>by simp at hb,Nat.le_refl _,fun b o u _ hu=>hu,hgl.gl,(fun g cs hg=>(by obtain ⟨T,fz,h2⟩:=hgl.tb g cs hg; exact ⟨heap_lt h2,T,fz,h2⟩)),(fun l x hx=>by cases hx),⟨(fun _ _ _ x=>by cases x),(fun _ _ x=>by cases x),(fun _ _ _ x=>by cases x)⟩⟩
 have hst:=start_ok (n:=fn.ntmps) hinv hks hr
 have hq:=hF args r hF'
 rw [← hmc]at hq
 have hw:=wpM_sound hm c true none (fun _=>rfl) ⟨w.heap.size,I,gv,fun _=>none,Cx.pure fun _ _=>none⟩ (GamOK.b hG) dl _ w [] _ [] _ [] _ _ w hst (.start rfl) hq
 refine calls_of_post hf hb (Nat.le_refl _) hw fun x env fr h' C' a' w' k0 k5 k6 k7=>?_
 obtain ⟨k2,v,k3,k4⟩:=k0
 refine ⟨k2,?_⟩
 obtain ⟨u,r1,r2⟩:=resAV_sound k5.inv k5.rel hrs k3
 have hfz:frz h' v=some (r,freezeAll h' (owns v)):=by simp [frz,k4]
 obtain ⟨D,d1,d2,d3,d4,d5⟩:=frz_sound k5.inv hfz r1
 exact ⟨u,r2,u,D.im,rfl,⟨fun b o u hu=>d1.im _ _ _ (k6.im _ _ _ hu),fun b o u hu hb=>d2.low b o u hb hu⟩,d2.holds,d3,k7.below⟩
theorem pureK_of(hm:P.follows .mixedOrders=true){gv:Gv}(hG:GamOK P gv G){f:FuncId}{fn:Func}{c:Code}(hf:P.funcs[f]?=some fn)(hb:fn.body=some c){ks ow:List Nat}{dl:List (List Nat)}{rs:List RV}{mc:MC}
  (hks:ks.all (fun k=>decide (k<fn.ntmps))=true) (hrs:compRVs P fn.results.toList=some rs) (hmc:(compC P gv ks fn.ntmps ow c dl).1=mc) {F:List AV→Option AV}
  (hF:∀ args r,F args=some r→wpM G mc (pureKQ rs r) [] (frInit ks args) []):PureOK P gv f F:=by
 intro I w args r vals hI hgl hr hF'
 have hinv:Inv ⟨w.heap.size,I,gv,fun _=>none,Cx.pure fun _ _=>none⟩ (Cx.pure I) [] w:=⟨hI.cell,hI.one,fun l blk hb=>by simp at hb,fun l l' blk blk' b hb=>by simp at hb,fun l _=>⟨rfl,fun _=>rfl⟩,fun l ne tg sz ver rows wr hb=>by simp at hb,Nat.le_refl _,fun b o u _ hu=>hu,hgl.gl,(fun g cs hg=>(by obtain ⟨T,fz,h2⟩:=hgl.tb g cs hg; exact ⟨heap_lt h2,T,fz,h2⟩)),(fun l x hx=>by cases hx),⟨(fun _ _ _ x=>by cases x),(fun _ _ x=>by cases x),(fun _ _ _ x=>by cases x)⟩⟩
 have hst:=start_ok (n:=fn.ntmps) hinv hks hr
 have hq:=hF args r hF'
 rw [← hmc]at hq
 have hw:=wpM_sound hm c true none (fun _=>rfl) ⟨w.heap.size,I,gv,fun _=>none,Cx.pure fun _ _=>none⟩ (GamOK.b hG) dl _ w [] _ [] _ [] _ _ w hst (.start rfl) hq
 refine calls_of_post hf hb (Nat.le_refl _) hw fun x env fr h' C' a' w' k0 k5 k6 k7=>?_
 obtain ⟨k2,v,k3,k4⟩:=k0
 refine ⟨k2,?_⟩
 obtain ⟨u,r1,r2⟩:=resAV_sound k5.inv k5.rel hrs k3
 have hfz:frzK h' v=some (r,freezeAll h' (owns v)):=by simp [frzK,k4]
 obtain ⟨D,d1,d2,d3,d4,d5⟩:=frzK_sound k5.inv hfz r1
 exact ⟨u,r2,u,D.im,rfl,⟨fun b o u hu=>d1.im _ _ _ (k6.im _ _ _ hu),fun b o u hu hb=>d2.low b o u hb hu⟩,d2.holds,d3,k7.below⟩
def parts1:AV→List AV
 | .tup vs=>vs
 | v=>[v]
def pureSQ(rs:List RV)(r:AV):MPost:=fun x env fr h=>(match x with | .exit _=>False | _=>True)∧∃ v h1,resAV (getT env fr) h rs=some v∧settleL h (parts1 v)=some h1∧viewK h1 v=some r
theorem pureS_of(hm:P.follows .mixedOrders=true){gv:Gv}(hG:GamOK P gv G){f:FuncId}{fn:Func}{c:Code}(hf:P.funcs[f]?=some fn)(hb:fn.body=some c){ks ow:List Nat}{dl:List (List Nat)}{rs:List RV}{mc:MC}
  (hks:ks.all (fun k=>decide (k<fn.ntmps))=true) (hrs:compRVs P fn.results.toList=some rs) (hmc:(compC P gv ks fn.ntmps ow c dl).1=mc) {F:List AV→Option AV}
  (hF:∀ args r,F args=some r→wpM G mc (pureSQ rs r) [] (frInit ks args) []):PureOK P gv f F:=by
 intro I w args r vals hI hgl hr hF'
 have hinv:Inv ⟨w.heap.size,I,gv,fun _=>none,Cx.pure fun _ _=>none⟩ (Cx.pure I) [] w:=⟨hI.cell,hI.one,fun l blk hb=>by simp at hb,fun l l' blk blk' b hb=>by simp at hb,fun l _=>⟨rfl,fun _=>rfl⟩,fun l ne tg sz ver rows wr hb=>by simp at hb,Nat.le_refl _,fun b o u _ hu=>hu,hgl.gl,(fun g cs hg=>(by obtain ⟨T,fz,h2⟩:=hgl.tb g cs hg; exact ⟨heap_lt h2,T,fz,h2⟩)),(fun l x hx=>by cases hx),⟨(fun _ _ _ x=>by cases x),(fun _ _ x=>by cases x),(fun _ _ _ x=>by cases x)⟩⟩
 have hst:=start_ok (n:=fn.ntmps) hinv hks hr
 have hq:=hF args r hF'
 rw [← hmc]at hq
 have hw:=wpM_sound hm c true none (fun _=>rfl) ⟨w.heap.size,I,gv,fun _=>none,Cx.pure fun _ _=>none⟩ (GamOK.b hG) dl _ w [] _ [] _ [] _ _ w hst (.start rfl) hq
 refine calls_of_post hf hb (Nat.le_refl _) hw fun x env fr h' C' a' w' k0 k5 k6 k7=>?_
 obtain ⟨k2,v,h1,k3,ks1,k4⟩:=k0
 refine ⟨k2,?_⟩
 obtain ⟨u,r1,r2⟩:=resAV_sound k5.inv k5.rel hrs k3
 obtain ⟨D0,z1,z2⟩:=settleL_sound k5.inv ks1
 have hfz:frzK h1 v=some (r,freezeAll h1 (owns v)):=by simp [frzK,k4]
 obtain ⟨D,d1,d2,d3,d4,d5⟩:=frzK_sound z2 hfz (r1.mono z1)
 exact ⟨u,r2,u,D.im,rfl,⟨fun b o u hu=>d1.im _ _ _ (z1.im _ _ _ (k6.im _ _ _ hu)),fun b o u hu hb=>d2.low b o u hb hu⟩,d2.holds,d3,k7.below⟩
theorem gen_of(hm:P.follows .mixedOrders=true){gv:Gv}(hG:GamOK P gv G){f:FuncId}{fn:Func}{c:Code}(hf:P.funcs[f]?=some fn)(hb:fn.body=some c){ks ow:List Nat}{dl:List (List Nat)}{rs:List RV}{mc:MC}
  (hks:ks.all (fun k=>decide (k<fn.ntmps))=true) (hrs:compRVs P fn.results.toList=some rs) (hmc:(compC P gv ks fn.ntmps ow c dl).1=mc) {F:List AV→Heap→Option (AV×Heap)}
  (hF:∀ args h r h',F args h=some (r,h')→wpM G mc (genQ rs r h') [] (frInit ks args) h):GenOK P gv f F:=by
 intro B C h w args r h' vals hgv hi hr hF'
 subst hgv
 have hst:=start_ok (n:=fn.ntmps) hi hks hr
 have hq:=hF args h r h' hF'
 rw [← hmc]at hq
 have hw:=wpM_sound hm c true none (fun _=>rfl) B (GamOK.b hG) dl _ w [] _ [] _ h _ _ w hst (.start rfl) hq
 refine calls_of_post hf hb hi.hB hw fun x env fr h2 C' a' w' k0 k5 k6 k7=>?_
 obtain ⟨k2,k3,k4⟩:=k0
 subst k4
 refine ⟨k2,?_⟩
 obtain ⟨u,r1,r2⟩:=resAV_sound k5.inv k5.rel hrs k3
 exact ⟨u,r2,u,C',rfl,k6,k5.inv,r1,k7⟩
def genFQ(rs:List RV)(r:AV)(h':Heap):MPost:=fun x env fr h=>(match x with | .exit _=>False | _=>True)∧∃ v,resAV (getT env fr) h rs=some v∧frz h v=some (r,h')
theorem genF_of(hm:P.follows .mixedOrders=true){gv:Gv}(hG:GamOK P gv G){f:FuncId}{fn:Func}{c:Code}(hf:P.funcs[f]?=some fn)(hb:fn.body=some c){ks ow:List Nat}{dl:List (List Nat)}{rs:List RV}{mc:MC}
  (hks:ks.all (fun k=>decide (k<fn.ntmps))=true) (hrs:compRVs P fn.results.toList=some rs) (hmc:(compC P gv ks fn.ntmps ow c dl).1=mc) {F:List AV→Heap→Option (AV×Heap)}
  (hF:∀ args h r h',F args h=some (r,h')→wpM G mc (genFQ rs r h') [] (frInit ks args) h):GenOK P gv f F:=by
 intro B C h w args r h' vals hgv hi hr hF'
 subst hgv
 have hst:=start_ok (n:=fn.ntmps) hi hks hr
 have hq:=hF args h r h' hF'
 rw [← hmc]at hq
 have hw:=wpM_sound hm c true none (fun _=>rfl) B (GamOK.b hG) dl _ w [] _ [] _ h _ _ w hst (.start rfl) hq
 refine calls_of_post hf hb hi.hB hw fun x env fr h2 C' a' w' k0 k5 k6 k7=>?_
 obtain ⟨k2,v,k3,k4⟩:=k0
 refine ⟨k2,?_⟩
 obtain ⟨u,r1,r2⟩:=resAV_sound k5.inv k5.rel hrs k3
 obtain ⟨D,d1,d2,d3,d4,d5⟩:=frz_sound k5.inv k4 r1
 exact ⟨u,r2,u,D,rfl,k6.trans d1,d2,d3.mono (Cx.frozen_le D),k7⟩
def itQ(h':Heap):MPost:=fun x _ _ h=>(match x with | .exit _=>False | _=>True)∧h=h'
theorem it_of(hm:P.follows .mixedOrders=true){gv:Gv}(hG:GamOK P gv G){f:FuncId}{fn:Func}{c:Code}(hf:P.funcs[f]?=some fn)(hb:fn.body=some c){ks ow:List Nat}{dl:List (List Nat)}{mc:MC}
  (hks:ks.all (fun k=>decide (k<fn.ntmps))=true) (hrs:fn.results.toList=[]) (hmc:(compC P gv ks fn.ntmps ow c dl).1=mc) {F:ItF}
  (hF:∀ (Y:Nat→List AV→Heap→Option (AV×Heap)) (caps:List AV) (k N:Nat) (h h':Heap),runYN (F caps h) (Y k) N 0 h h'→wpM { G with y:=Y } mc (itQ h') [] (frInit ks (.yld k::caps)) h):ItOK P gv f F:=by
 intro B C h h' w caps vals k b N Y hgv hi hr hbl hY hrun
 subst hgv
 have hr':RelL C (.yld k::caps) (#[Value.func (.yield b) #[] #[]]++vals).toList:=by
  rw [Array.toList_append]; exact .cons (.yld k b hbl) hr
 have hst:=start_ok (n:=fn.ntmps) hi hks hr'
 have hq:=hF Y caps k N h h' hrun
 rw [← hmc]at hq
 have hw:=wpM_sound hm c true none (fun _=>rfl) B (GamOK.withY hG hY) dl _ w [] _ [] _ h _ _ w hst (.start rfl) hq
 refine calls_of_post hf hb hi.hB hw fun x env fr h2 C' a' w' k0 k5 k6 k7=>?_
 obtain ⟨k2,k4⟩:=k0
 subst k4
 refine ⟨k2,?_⟩
 have hv:(results fn a'.tmps).run P w'=.ok (.tuple #[]) w':=by
  unfold results;rw [Array.mapM_eq_mapM_toList,hrs];simp
 exact ⟨_,hv,_,C',rfl,k6,k5.inv,k7⟩
def Gam.none:Gam:=⟨fun _=>Option.none,fun _ _ _=>Option.none⟩
def Gam.add(G:Gam)(f:FuncId)(c:CT):Gam:={ G with fn:=fun g=>if g=f then some c else G g }
theorem gam_none(gv:Gv):GamOK P gv Gam.none:=⟨fun f c h=>by simp [Gam.none]at h,fun f c h=>by simp [Gam.none]at h,fun _ _ _=>rfl⟩
def entersB(P:Program)(f:FuncId):Bool:=match P.funcs[f]? with
 | some fn=>fn.name != "runtime.NumGoroutine" && fn.body.isSome
 | none=>false
theorem enters_of{f:FuncId}(h:entersB P f=true):Enters P f:=by
 intro args w
 unfold entersB at h
 split at h
 ·rename_i fn hf
  simp only [Bool.and_eq_true]at h;have h1:fn.name ≠ "runtime.NumGoroutine" := by simpa using h.1
  have h2:fn.body≠none:=fun e=>by have:=h.2; rw [e]at this; cases this
  simp [callFunc,program,Sem.run,hf,h1,h2]
 ·cases h
theorem gam_add{gv:Gv}(hG:GamOK P gv G){f:FuncId}{c:CT}(he:entersB P f=true)(hc:c.OK P gv f):GamOK P gv (G.add f c):=by
 refine ⟨fun g c' h=>?_,fun g c' h=>?_,hG.noy⟩
 ·by_cases e:g=f
  ·subst e; exact enters_of he
  ·refine hG.enters g c' ?_
   have h:(if g=f then some c else G g)=some c':=h;rwa [if_neg e]at h
 ·have h:(if g=f then some c else G g)=some c':=h
  by_cases e:g=f
  ·subst e
   rw [if_pos rfl]at h;injection h with h; subst h; exact hc
  ·rw [if_neg e]at h; exact hG.ok g c' h
end
end Go.Proofs.YtpefhfiehfkocaaGreatDoor
namespace Go.Proofs.YtpefhfiehfkocaaGreatDoor
open Go.RowKit
section
variable {P:Program} {B:Base} {C D:Cx} {h h':Heap} {w w':World} {G:Gam} {a:Act}
theorem lowL_of{n:Nat}:∀ {cs:List AV},(∀ (i:Nat) c,cs[i]?=some c→low n c=true)→lowL n cs=true
 | [],_=>rfl
 | c::cs,h=>by
  simp only [lowL,Bool.and_eq_true];exact ⟨h 0 c rfl,lowL_of fun i d hd=>h (i+1) d (by simpa using hd)⟩
theorem rel_low{n:Nat}{v:AV}{u:Value}(hr:Rel C v u)(hn:∀ l,n≤l→C.bl l=none∧∀ k,C.ar l k=none):low n v=true:=by
 have lt1:∀ {C:Cx} {l b:Nat},(∀ l,n≤l→C.bl l=none∧∀ k,C.ar l k=none)→C.bl l=some b→decide (l<n)=true:=fun {C l b} hn hb=>by
  rcases Nat.lt_or_ge l n with h1 | h1
  ·simpa using h1
  ·rw [(hn l h1).1]at hb; cases hb
 have lt2:∀ {C:Cx} {l k:Nat} {r},(∀ l,n≤l→C.bl l=none∧∀ k,C.ar l k=none)→C.ar l k=some r→decide (l<n)=true:=fun {C l k r} hn hb=>by
  rcases Nat.lt_or_ge l n with h1 | h1
  ·simpa using h1
  ·rw [(hn l h1).2]at hb; cases hb
 induction hr with
 | agg cs vs hl h ih=>
  simp only [low];refine lowL_of fun i c hc=>?_
  have hi:i<vs.size:=by rw [← hl]; exact (List.getElem?_eq_some_iff.1 hc).1
  exact ih i c vs[i] hc (by simp [hi]) hn
 | tup cs vs hl h ih=>
  simp only [low];refine lowL_of fun i c hc=>?_
  have hi:i<vs.size:=by rw [← hl]; exact (List.getElem?_eq_some_iff.1 hc).1
  exact ih i c vs[i] hc (by simp [hi]) hn
 | fn f cs vs hl h ih=>
  simp only [low];refine lowL_of fun i c hc=>?_
  have hi:i<vs.size:=by rw [← hl]; exact (List.getElem?_eq_some_iff.1 hc).1
  exact ih i c vs[i] hc (by simp [hi]) hn
 | mth f a v _ ih=>simp only [low]; exact ih hn
 | iface t a v _ ih=>simp only [low]; exact ih hn
 | ownnil l ver h=>simp only [low]; exact lt2 hn h
 | own l ver k r h _=>simp only [low]; exact lt2 hn h
 | win l ver lo k r h _=>simp only [low]; exact lt2 hn h
 | ptr l off b h=>simp only [low]; exact lt1 hn h
 | eptr l ver i off r h=>simp only [low]; exact lt2 hn h
 | map l b h=>simp only [low]; exact lt1 hn h
 | yld l b h=>simp only [low]; exact lt1 hn h
 | _=>rfl
theorem relL_low{n:Nat}{vs:List AV}{us:List Value}(hr:RelL C vs us)(hn:∀ l,n≤l→C.bl l=none∧∀ k,C.ar l k=none):lowL n vs=true:=by
 refine lowL_of fun i c hc=>?_
 obtain ⟨u,hu,hr⟩:=hr.get hc
 exact rel_low hr hn
theorem lowRows_of{n:Nat}:∀ {rows:List (List AV)},lowL n rows.flatten=true→lowRows n rows=true
 | [],_=>rfl
 | r::rs,h=>by
  have split:∀ {as bs:List AV},lowL n (as++bs)=true→lowL n as=true∧lowL n bs=true:=by
   intro as;induction as with
   | nil=>exact fun h=>⟨rfl,h⟩
   | cons a as ih=>
    intro bs h;simp only [List.cons_append,lowL,Bool.and_eq_true]at h ⊢;exact ⟨⟨h.1,(ih h.2).1⟩,(ih h.2).2⟩
  simp only [List.flatten_cons]at h;obtain ⟨h1,h2⟩:=split h;simp only [lowRows,Bool.and_eq_true];exact ⟨h1,lowRows_of h2⟩
theorem lowH_of{n:Nat}:∀ {h:Heap},(∀ (l:Nat) b,h[l]?=some b→lowB n b=true)→lowH n h=true
 | [],_=>rfl
 | b::h,k=>by
  simp only [lowH,Bool.and_eq_true];exact ⟨k 0 b rfl,lowH_of fun l c hc=>k (l+1) c (by simpa using hc)⟩
theorem inv_low(hi:Inv B C h w):lowH h.length h=true:=by
 refine lowH_of fun l b hb=>?_
 have hk:=hi.ok l b hb
 cases b with
 | cellsT tg vs=>
  obtain ⟨_,cur,e,_,_,_,_,h5,_⟩:=hk;exact relL_low h5 hi.fr
 | arrX ne tg sz ver rows wr=>
  cases ne with
  | false=>rfl
  | true=>
   rcases hk with ⟨_,rfl⟩ | ⟨r,cur,_,_,_,_,_,_,_,h8,_⟩
   ·rfl
   ·exact lowRows_of (relL_low h8 hi.fr)
 | mit m n seen last=>
  cases m with
  | none=>rfl
  | some m=>
   obtain ⟨b,mo,_,_,_,bm,h4,_⟩:=hk;simp only [lowB];rcases Nat.lt_or_ge m h.length with h1 | h1
   ·simpa using h1
   ·rw [(hi.fr m h1).1]at h4; cases h4
 | map es=>rfl
 | iter s p=>rfl
 | lp b x=>rfl
 | dead=>rfl
def Leaves(h' h:Heap):Prop:=h'.length≤h.length∧∀ (l:Nat) blk,h'[l]?=some blk→blk=.dead∨h[l]?=some blk
def LeaveOK(n0:Nat)(rs:List RV)(e:Nat→Option AV)(h:Heap)(r:AV)(h':Heap):Prop:=
 resAV e h rs=some r∧n0≤h'.length∧Leaves h' h∧low h'.length r=true∧lowH h'.length h'=true
def genLQ(n0:Nat)(rs:List RV)(r:AV)(h':Heap):MPost:=fun x env fr h=>(match x with | .exit _=>False | _=>True)∧LeaveOK n0 rs (getT env fr) h r h'
theorem leave_sound{C0:Cx}{h0:Heap}{w0:World}(h0i:Inv B C0 h0 w0)(hi:Inv B C h w)(hle:C0.Le C)(hn:h0.length≤h'.length)(hl:Leaves h' h)(hlow:lowH h'.length h'=true) :
  C0.Le (C.cut h'.length)∧Inv B (C.cut h'.length) h' w:=by
 have h1:(h'++h.drop h'.length).length=h.length:=by have:=hl.1; simp; omega
 have hf:Inv B C (h'++h.drop h'.length) w:=inv_forget hi h1 fun l blk hb=>by
  rcases Nat.lt_or_ge l h'.length with h2 | h2
  ·rw [List.getElem?_append_left h2]at hb; exact hl.2 l blk hb
  ·rw [List.getElem?_append_right h2,List.getElem?_drop]at hb
   rw [show h'.length+(l-h'.length)=l by omega]at hb;exact .inr hb
 have ht:(h'++h.drop h'.length).take h'.length=h':=by simp
 have hfr:∀ l,h'.length≤l→C0.bl l=none∧∀ v,C0.ar l v=none:=fun l hl=>h0i.fr l (by omega)
 refine ⟨le_cut hle hfr,?_⟩
 have:=trunc_inv hf (n:=h'.length) (fun l x hx=>by have:=h0i.rcl l x hx; omega) (fun l hl=>by
  have:=hfr l hl;refine ⟨?_,fun v=>?_⟩
  ·cases hb:B.cx.bl l with
   | none=>rfl
   | some b=>have q:=h0i.cle.bl _ _ hb; rw [this.1]at q; cases q
  ·cases hb:B.cx.ar l v with
   | none=>rfl
   | some b=>have q:=h0i.cle.ar _ _ _ hb; rw [this.2 v]at q; cases q) (by rw [ht]; exact hlow)
 rwa [ht]at this
theorem genL_of(hm:P.follows .mixedOrders=true){gv:Gv}(hG:GamOK P gv G){f:FuncId}{fn:Func}{c:Code}(hf:P.funcs[f]?=some fn)(hb:fn.body=some c){ks ow:List Nat}{dl:List (List Nat)}{rs:List RV}{mc:MC}
  (hks:ks.all (fun k=>decide (k<fn.ntmps))=true) (hrs:compRVs P fn.results.toList=some rs) (hmc:(compC P gv ks fn.ntmps ow c dl).1=mc) {F:List AV→Heap→Option (AV×Heap)}
  (hF:∀ args h r h',lowL h.length args=true→lowH h.length h=true→F args h=some (r,h')→wpM G mc (genLQ h.length rs r h') [] (frInit ks args) h):GenOK P gv f F:=by
 intro B C h w args r h' vals hgv hi hr hF'
 subst hgv
 have hst:=start_ok (n:=fn.ntmps) hi hks hr
 have hq:=hF args h r h' (relL_low hr hi.fr) (inv_low hi) hF'
 rw [← hmc]at hq
 have hw:=wpM_sound hm c true none (fun _=>rfl) B (GamOK.b hG) dl _ w [] _ [] _ h _ _ w hst (.start rfl) hq
 refine calls_of_post hf hb hi.hB hw fun x env fr h2 C' a' w' k0 k5 k6 k7=>?_
 obtain ⟨k2,k3,n1,n2,n3,n4⟩:=k0
 refine ⟨k2,?_⟩
 obtain ⟨u,r1,r2⟩:=resAV_sound k5.inv k5.rel hrs k3
 obtain ⟨e1,e2⟩:=leave_sound hi k5.inv k6 n1 n2 n4
 exact ⟨u,r2,u,_,rfl,e1,e2,low_rel n3 r1,k7⟩
def LeaveZ(n0:Nat)(rs:List RV)(e:Nat→Option AV)(h:Heap)(r:AV)(h':Heap):Prop:=
 ∃ v h1,resAV e h rs=some v∧frz h v=some (r,h1)∧n0≤h'.length∧Leaves h' h1∧low h'.length r=true∧lowH h'.length h'=true
def genZLQ(n0:Nat)(rs:List RV)(r:AV)(h':Heap):MPost:=fun x env fr h=>(match x with | .exit _=>False | _=>True)∧LeaveZ n0 rs (getT env fr) h r h'
theorem genZL_of(hm:P.follows .mixedOrders=true){gv:Gv}(hG:GamOK P gv G){f:FuncId}{fn:Func}{c:Code}(hf:P.funcs[f]?=some fn)(hb:fn.body=some c){ks ow:List Nat}{dl:List (List Nat)}{rs:List RV}{mc:MC}
  (hks:ks.all (fun k=>decide (k<fn.ntmps))=true) (hrs:compRVs P fn.results.toList=some rs) (hmc:(compC P gv ks fn.ntmps ow c dl).1=mc) {F:List AV→Heap→Option (AV×Heap)}
  (hF:∀ args h r h',lowL h.length args=true→lowH h.length h=true→F args h=some (r,h')→wpM G mc (genZLQ h.length rs r h') [] (frInit ks args) h):GenOK P gv f F:=by
 intro B C h w args r h' vals hgv hi hr hF'
 subst hgv
 have hst:=start_ok (n:=fn.ntmps) hi hks hr
 have hq:=hF args h r h' (relL_low hr hi.fr) (inv_low hi) hF'
 rw [← hmc]at hq
 have hw:=wpM_sound hm c true none (fun _=>rfl) B (GamOK.b hG) dl _ w [] _ [] _ h _ _ w hst (.start rfl) hq
 refine calls_of_post hf hb hi.hB hw fun x env fr h2 C' a' w' k0 k5 k6 k7=>?_
 obtain ⟨k2,v,h1,k3,kz,n1,n2,n3,n4⟩:=k0
 refine ⟨k2,?_⟩
 obtain ⟨u,r1,r2⟩:=resAV_sound k5.inv k5.rel hrs k3
 obtain ⟨D,d1,d2,d3,d4,d5⟩:=frz_sound k5.inv kz r1
 obtain ⟨e1,e2⟩:=leave_sound hi d2 (k6.trans d1) n1 n2 n4
 exact ⟨u,r2,u,_,rfl,e1,e2,low_rel n3 (d3.mono (Cx.frozen_le D)),k7⟩
theorem leave_marks'{fn:Func}{tmps:Array Value}{R:Ending→World→Prop}{w0:World}{ds:List Deferred}(hB:B.n≤w0.heap.size)(fin:∀ w2,Inv B C h w2→Keep B w0 w2→LeavesInM Fence.wide 0 P fn tmps R ds .returning w2) :
  ∀ (Ds:List Nat) (w:World),Inv B C h w→Keep B w0 w→Marks w0 Ds w→LeavesInM Fence.wide 0 P fn tmps R (Ds.map mark++ds) .returning w
 | [],w,hi,hk,_=>fin w hi hk
 | D::Ds,w,hi,hk,hm=>by
  obtain ⟨h1,h2⟩:=hm.there D (by simp);refine ⟨by simp,.inl ⟨D,_,rfl,run_takeDeferred h2,?_⟩⟩
  refine leave_marks' hB fin Ds _ (inv_sys hi h2 _) ⟨?_,fun k c hc=>?_⟩ ⟨(List.nodup_cons.1 hm.nodup).2,fun E hE=>?_⟩
  ·exact hk.below.trans ⟨rfl,rfl,rfl,by simp,fun k hk=>World.putObj_heap_other (by omega)⟩
  ·have:k≠D:=fun e=>by subst e; have:=heap_lt hc; omega
   exact (World.putObj_heap_other this).trans (hk.sys k c hc)
  ·have:E≠D:=fun e=>by subst e; exact (List.nodup_cons.1 hm.nodup).1 hE
   exact ⟨(hm.there E (by simp [hE])).1,(World.putObj_heap_other this).trans (hm.there E (by simp [hE])).2⟩
def splitD:Code→Option (Array Oper×Array Oper×Oper×Nat×FuncId×Array Operand×Code)
 | .seq (.region _ ops0 false) (.seq (.region _ ops1 false) rest)=>match ops1.toList with
  | [o1,o2]=>(match o1.op,o1.dst,o1.guard,o2.op,o2.dst,o2.guard with
   | .makeFunc (.func g) first caps,some t,none,.defer ⟨.value (.tmp t'),args,_⟩,none,none=>if t=t'∧first.toList=[]∧args.toList=[]then some (ops0,ops1,o1,t,g,caps,rest)else none
   | _,_,_,_,_,_=>none)
  | _=>none
 | _=>none
def regionOf:Code→Option (Array Oper)
 | .region _ ops false=>some ops
 | _=>none
theorem genD_of(hm:P.follows .mixedOrders=true){gv:Gv}(hG:GamOK P gv G){f:FuncId}{fn:Func}{c:Code}(hf:P.funcs[f]?=some fn)(hb:fn.body=some c){ks ow:List Nat}{dl:List (List Nat)}{rs:List RV}
  {ops0 ops1:Array Oper} {o1:Oper} {t:Nat} {g:FuncId} {caps:Array Operand} {rest:Code} (hsp:splitD c=some (ops0,ops1,o1,t,g,caps,rest)) {is0:List MI} {m1:MI} {mc:MC}
  (hks:ks.all (fun k=>decide (k<fn.ntmps))=true) (hkt:ks.contains t=false) (hrs:compRVs P fn.results.toList=some rs) (h0:compReg P gv ks fn.ntmps ow ops0=is0) (h1:compMI P gv ks fn.ntmps ow ops1 o1=m1) (hmc:(compC P gv ks fn.ntmps ow rest dl).1=mc)
  {gn:Func} {gc:Code} {gops:Array Oper} {gks gow:List Nat} {gis:List MI} (hg:P.funcs[g]?=some gn) (hgb:gn.body=some gc) (hgo:regionOf gc=some gops) (hgr:gn.results.toList=[]) (hgks:gks.all (fun k=>decide (k<gn.ntmps))=true) (hgen:Enters P g)
  (hgi:compReg P gv gks gn.ntmps gow gops=gis)
  {F:List AV→Heap→Option (AV×Heap)}
  (hF:∀ args h r h',lowL h.length args=true→lowH h.length h=true→F args h=some (r,h')→∃ env0 fr0 h0 vs,run G false is0 (.ok [] (frInit ks args) h)=.ok env0 fr0 h0∧stepV G false m1 (getT [] fr0) h0=some (.fn g vs,h0)∧
   wpM G mc (fun x env fr h1=>(match x with | .exit _=>False | _=>True)∧∃ env2 fr2 h2,run G false gis (.ok [] (frInit gks vs) h1)=.ok env2 fr2 h2∧LeaveOK h.length rs (getT env fr) h2 r h') [] fr0 h0):GenOK P gv f F:=by
 intro B C h w args r h' vals hgv hi hr hF'
 subst hgv
 have hst:=start_ok (n:=fn.ntmps) hi hks hr
 obtain ⟨env0,fr0,h2,vs,e1,e2,e3⟩:=hF args h r h' (relL_low hr hi.fr) (inv_low hi) hF'
 unfold splitD at hsp
 split at hsp
 ·rename_i i0 ops0' i1 ops1' rest'
  split at hsp
  ·rename_i o1' o2 hops
   split at hsp
   ·rename_i g' first caps' t0 t' dargs dtys q1 q2 q3 q4 q5 q6
    split at hsp
    ·rename_i hc
     obtain ⟨rfl,hfirst,hargs⟩:=hc;simp only [Option.some.injEq,Prod.mk.injEq]at hsp;obtain ⟨rfl,rfl,rfl,rfl,rfl,rfl,rfl⟩:=hsp;have hdargs:dargs=#[]:=by rw [← Array.toList_inj]; simpa using hargs
     subst hdargs;have hops1:ops1'=#[o1',o2]:=by rw [← Array.toList_inj]; simpa using hops
     refine (callsIn_wide (n:=0)).1 (callsIn_of_wp_marks (F:=Fence.wide) hf hb trivial ?_)
     rw [← h0]at e1;rw [← h1]at e2;rw [← hmc]at e3;refine wpIn_seq (F:=fR none) (region_sound (ro:=none) (GamOK.b hG) hst e1 fun D1 a1 w1 p1 p2 p3 p4=>?_)
     refine wpIn_seq (F:=fR none) (wpIn_region ?_)
     have hrg:List.range ops1'.size=[0,1]:=by rw [hops1]; rfl
     rw [hrg,wpOpsIn_cons];have p2c:=p2.clear;refine step_sound (ro:=none) (GamOK.b hG) p2c.inv p2c.rel (k:=0) (o:=o1') (by rw [hops1]; rfl) e2 fun u D w2 k1 k2 k3 k4=>?_
     rw [wpOpsIn_cons];unfold wpOpIn;have hget1:ops1'[1]?=some o2:=by rw [hops1]; rfl
     simp only [hget1];rw [if_pos (by simp [Region.wanted,q6])];cases k3 with
     | fn _ _ us hl hh=>
     have hev:(a1.put o1'.dst (.func (.func g') #[] us)).eval (.tmp t0)=.func (.func g') #[] us:=by
      rw [q2];have ht:t0<a1.tmps.size:=by
       have hne:compMI P B.gv ks fn.ntmps ow ops1' o1'≠botMI:=fun e=>by rw [e,bot_none]at e2; cases e2
       exact Nat.lt_of_lt_of_le ((compMI_dst hne).2.2 t0 q2) p2.size
      simp [Act.put,Act.eval,ht]
     obtain ⟨dfd,hdfd⟩:∃ d:Deferred,d={ target:=.fn (.func g') us,args:=#[] }:=⟨_,rfl⟩
     obtain ⟨a2,ha2⟩:∃ a2,a2=a1.put o1'.dst (.func (.func g') #[] us):=⟨_,rfl⟩
     rw [← ha2]at hev ⊢;have hdef2:a2.defers=[]:=by rw [ha2,put_defers',p3]
     unfold Oper.wpIn;refine ⟨fun _ _=>trivial,?_⟩
     have hrunD:((o2.semAt (fR none).round a2.eval).run P w2)=.ok (.defer dfd) w2:=by
      have es:o2.semAt (fR none).round a2.eval=execOp a2.eval o2:=Oper.semAt_none _ _;have e9:execOp a2.eval o2=execOp a2.eval { o2 with op:=.defer ⟨.value (.tmp t0),#[],dtys⟩ }:=by rw [← q4]
      rw [es,e9,hdfd];simp [execOp,resolve,hev,ofValue_func]
     rw [hrunD,Oper.uponIn_defer,q5];have hrel2:RelT D (getT [] fr0) a2:=by
      rw [ha2,q2];refine (p2c.rel.mono k1).put (.fn g' vs us hl hh) (fun t' ht'=>?_) (fun t' x hx=>?_)
      ·injection ht' with ht'; subst ht'
       have hne:compMI P B.gv ks fn.ntmps ow ops1' o1'≠botMI:=fun e=>by rw [e,bot_none]at e2; cases e2
       exact Nat.lt_of_lt_of_le ((compMI_dst hne).2.2 t0 q2) p2.size
      ·refine .inr ⟨fun e=>?_,hx⟩
       injection e with e; subst e
       have:=p2.keys t0 x (by simpa [getT,lkp] using hx);rw [hkt]at this; cases this
     have hst3:StOK ks fn.ntmps B D [] fr0 h2 { a2 with defers:=dfd::a2.defers } w2:=⟨k2,hrel2,p2c.sep,p2.keys,by rw [ha2]; simp only [put_size']; exact p2.size⟩;have hCD:C.Le D:=p1.trans k1;have hKD:Keep B w w2:=p4.trans k4;have hw:=wpM_sound hm rest' true none (fun _=>rfl) B (GamOK.b hG) dl D w2 [dfd] _ [] _ h2 _ { a2 with defers:=dfd::a2.defers } w2 hst3 (.start (by simp [hdef2])) e3;refine wpIn_mono hw fun e a3 w3 hp=>?_
     obtain ⟨x,env,fr,h3,C3,n1,n2,n3,n4⟩:=hp;obtain ⟨Ds,hD,hM⟩:=n4.ds;obtain ⟨m0,env2,fr2,h4,m1',m2⟩:=n2;have out:LeavesInM Fence.wide 0 P fn a3.tmps (fun e w'=>∃ v D,e=.returned v∧C.Le D∧Inv B D h' w'∧Rel D r v∧Keep B w w') a3.defers .returning w3:=by
      rw [hD];refine leave_marks' (C:=C3) (h:=h3) k2.hB (fun w4 hi4 hk4=>?_) Ds w3 n3.inv n4.keep hM
      have hinvk:(invoke dfd.target dfd.args).run P w4=.ok (.enter g' us) w4:=by
       rw [hdfd]; simp only [invoke];have:=hgen us w4;simpa using this
      refine ⟨by simp,.inr ⟨fR_depth (ro:=none),.func g',us,g',us,by rw [hdfd],hinvk,fun _ _=>trivial,?_⟩⟩
      have hcaps:RelL C3 vs us.toList:=⟨by simpa using hl,fun i c v hc hv=>(hh i c v hc (by simpa using hv)).mono n4.le⟩;have hst5:=start_ok (n:=gn.ntmps) hi4 hgks hcaps;have hreg:gc.wpIn (fR none) 0 P (bodyPost P gn fun e w'=>∃ D',e=.returned (.tuple #[])∧C3.Le D'∧Inv B D' h4 w'∧Keep B w4 w') { tmps:=us++Array.replicate (gn.ntmps-us.size) undef,defers:=[] } w4:=by
       unfold regionOf at hgo;split at hgo
       ·rename_i ig gops'
        injection hgo with hgo; subst hgo
        rw [← hgi]at m1';refine region_sound (ro:=none) (GamOK.b hG) hst5 m1' fun D5 a5 w5 s1 s2 s3 s4=>?_
        refine ⟨s3,.tuple #[],?_,D5,rfl,s1,s2.inv,s4⟩
        unfold results;rw [Array.mapM_eq_mapM_toList,hgr];simp
       ·cases hgo
      refine CallsDIn.mono (callsDIn_of_wp (F:=Fence.wide) (n:=0) hg hgb trivial hreg) fun e u' w' hk=>?_
      obtain ⟨rfl,D',rfl,s1,s2,s3⟩:=hk;show LeavesInM Fence.wide 0 P fn a3.tmps _ [] (settle .returning) w'
      obtain ⟨t1,t2,t3,t4,t5⟩:=m2;have hrel5:RelT D' (getT env fr) a3:=n3.rel.mono s1;obtain ⟨u,r1,r2⟩:=resAV_sound s2 hrel5 hrs t1;have hC5:C.Le D':=hCD.trans (n4.le.trans s1);obtain ⟨z1,z2⟩:=leave_sound hi s2 hC5 t2 t3 t5;exact ⟨u,r2,u,_,rfl,z1,z2,low_rel t4 r1,hKD.trans (hk4.trans s3)⟩
     cases x with
     | normal=>cases e <;> simp only [MX.is]at n1; exact out
     | ret=>cases e <;> simp only [MX.is]at n1; exact out
     | exit i=>exact m0.elim
    ·cases hsp
   ·cases hsp
  ·cases hsp
 ·cases hsp
end
end Go.Proofs.YtpefhfiehfkocaaGreatDoor
namespace Go.Proofs.YtpefhfiehfkocaaGreatDoor
open Go.RowKit
section
variable {G:Gam}
def LoopM(G:Gam)(dead:List Nat)(a:MC)(n:Nat)(Q:MPost)(fr:List (Nat×AV))(h:Heap):Prop:=∃ N,roundsM (wpM G a) dead n Q N [] fr h
theorem rounds_env{T:MPost→List (Nat×AV)→List (Nat×AV)→Heap→Prop}{dead:List Nat}{n:Nat}{Q:MPost}{N:Nat}{env env' fr:List (Nat×AV)}{h:Heap}:roundsM T dead n Q N env fr h=roundsM T dead n Q N env' fr h:=by
 cases N <;> rfl
theorem wpM_loop{dead:List Nat}{a:MC}{Q:MPost}{env fr:List (Nat×AV)}{h:Heap}:wpM G (.loop dead a) Q env fr h=LoopM G dead a h.length Q fr h:=by
 simp only [wpM,LoopM]
 congr 1
 funext N
 exact rounds_env
theorem loop_step{dead:List Nat}{a:MC}{n:Nat}{Q:MPost}{fr:List (Nat×AV)}{h:Heap}(hq:wpM G a (seqQ (fun _ _ fr h=>LoopM G dead a n Q fr h) Q) [] (junkAll dead fr) (truncD dead n (junkAll dead fr) h)):LoopM G dead a n Q fr h:=by
 obtain ⟨L,k1,k2⟩:=wpM_fin a [] (junkAll dead fr) (truncD dead n (junkAll dead fr) h) (fun o=>seqQ (fun _ _ fr h=>LoopM G dead a n Q fr h) Q o.1 o.2.1 o.2.2.1 o.2.2.2) hq
 have hN:∀ L:List OutC,(∀ o∈L,seqQ (fun _ _ fr h=>LoopM G dead a n Q fr h) Q o.1 o.2.1 o.2.2.1 o.2.2.2)→∃ N,∀ o∈L,seqQ (fun _ env fr h=>roundsM (wpM G a) dead n Q N env fr h) Q o.1 o.2.1 o.2.2.1 o.2.2.2:=by
  intro L;induction L with
  | nil=>intro _; exact ⟨0,by simp⟩
  | cons o L ih=>
   intro hL;obtain ⟨N,hN⟩:=ih fun p hp=>hL p (by simp [hp])
   have ho:=hL o (by simp);obtain ⟨x,e,f,h1⟩:=o;cases x with
   | normal=>
    obtain ⟨M,hM⟩:=ho;refine ⟨max N M,fun p hp=>?_⟩
    rcases List.mem_cons.1 hp with rfl | hp
    ·exact rounds_up (wpM_fin a) M _ _ _ _ (Nat.le_max_right _ _) (by rw [rounds_env (env':=[])]; exact hM)
    ·have:=hN p hp
     obtain ⟨x,e,f,h1⟩:=p;cases x with
     | normal=>exact rounds_up (wpM_fin a) N _ _ _ _ (Nat.le_max_left _ _) this
     | exit i=>exact this
     | ret=>exact this
   | exit i=>
    refine ⟨N,fun p hp=>?_⟩
    rcases List.mem_cons.1 hp with rfl | hp
    ·exact ho
    ·exact hN p hp
   | ret=>
    refine ⟨N,fun p hp=>?_⟩
    rcases List.mem_cons.1 hp with rfl | hp
    ·exact ho
    ·exact hN p hp
 obtain ⟨N,hN⟩:=hN L k1
 exact ⟨N+1,by simp only [roundsM]; exact k2 (fun o=>seqQ (fun _ env fr h=>roundsM (wpM G a) dead n Q N env fr h) Q o.1 o.2.1 o.2.2.1 o.2.2.2) hN⟩
def after(Q:MPost):R→Prop
 | .ok env fr h=>Q .normal env fr h
 | .bad=>False
theorem wpM_reg{is:List MI}{Q:MPost}{env fr:List (Nat×AV)}{h:Heap}:wpM G (.reg is) Q env fr h=after Q (run G false is (.ok [] fr h)):=by
 simp only [wpM,after]; split <;> rename_i hr <;> rw [hr]
theorem wpM_rgd{is:List MI}{Q:MPost}{env fr:List (Nat×AV)}{h:Heap}:wpM G (.rgd is) Q env fr h=after Q (run G true is (.ok [] fr h)):=by
 simp only [wpM,after]; split <;> rename_i hr <;> rw [hr]
def choose2(Q1 Q2:Prop):Option AV→Prop
 | some (.bool t)=>if t then Q1 else Q2
 | _=>False
theorem wpM_ite{c:At}{a b:MC}{Q:MPost}{env fr:List (Nat×AV)}{h:Heap}:wpM G (.ite c a b) Q env fr h=choose2 (wpM G a Q env fr h) (wpM G b Q env fr h) (getA (getT env fr) c):=by
 simp only [wpM,choose2]; rfl
end
end Go.Proofs.YtpefhfiehfkocaaGreatDoor
namespace Go.Proofs.YtpefhfiehfkocaaGreatDoor
open Go.RowKit
inductive MK where
 | seq (b:MC)
 | blk (id:Nat)
 | loop (dead:List Nat) (a:MC) (n:Nat)
def contM(G:Gam):List MK→MPost→MPost
 | [],Q=>Q
 | .seq b::ks,Q=>seqQ (fun _ env fr h=>wpM G b (contM G ks Q) env fr h) (contM G ks Q)
 | .blk id::ks,Q=>blkQ id (contM G ks Q)
 | .loop d a n::ks,Q=>seqQ (fun _ _ fr h=>LoopM G d a n (contM G ks Q) fr h) (contM G ks Q)
def goM(G:Gam)(c:MC)(ks:List MK)(Q:MPost)(env fr:List (Nat×AV))(h:Heap):Prop:=wpM G c (contM G ks Q) env fr h
def exM(G:Gam)(x:MX)(ks:List MK)(Q:MPost)(env fr:List (Nat×AV))(h:Heap):Prop:=contM G ks Q x env fr h
def headM(G:Gam)(d:List Nat)(a:MC)(n:Nat)(ks:List MK)(Q:MPost)(fr:List (Nat×AV))(h:Heap):Prop:=LoopM G d a n (contM G ks Q) fr h
def regM(G:Gam)(s:Bool)(is:List MI)(ks:List MK)(Q:MPost)(env fr:List (Nat×AV))(h:Heap):Prop:=after (contM G ks Q) (run G s is (.ok env fr h))
def bindM(G:Gam)(s:Bool)(dst:Option Nat)(kept:Bool)(is:List MI)(ks:List MK)(Q:MPost)(env fr:List (Nat×AV)):Option (AV×Heap)→Prop
 | none=>False
 | some (v,h)=>match dst with
  | none=>regM G s is ks Q env fr h
  | some t=>if kept then regM G s is ks Q env (upd t v fr) h else regM G s is ks Q ((t,v)::env) fr h
def opV(G:Gam)(s:Bool)(h:Heap)(o:AO):Option (List AV)→Option (AV×Heap)
 | some vs=>if s&&!o.loud then (evalStill G h o vs).map fun v=>(v,h)else evalAll G h o vs
 | none=>none
def guardV(want:Bool)(h:Heap)(r:Option (AV×Heap)):Option AV→Option (AV×Heap)
 | some (.bool b)=>if b=want then r else some (skipped,h)
 | some (.tup [])=>some (skipped,h)
 | _=>none
section
variable {G:Gam} {s:Bool} {ks:List MK} {Q:MPost} {env fr:List (Nat×AV)} {h:Heap}
theorem wpM_go{c:MC}:wpM G c Q env fr h=goM G c [] Q env fr h:=rfl
@[simp] theorem go_skip:goM G .skip ks Q env fr h=exM G .normal ks Q env fr h:=rfl
@[simp] theorem go_ret:goM G .ret ks Q env fr h=exM G .ret ks Q env fr h:=rfl
@[simp] theorem go_exit{id:Nat}:goM G (.exit id) ks Q env fr h=exM G (.exit id) ks Q env fr h:=rfl
@[simp] theorem go_seq{a b:MC}:goM G (.seq a b) ks Q env fr h=goM G a (.seq b::ks) Q env fr h:=rfl
@[simp] theorem go_blk{id:Nat}{a:MC}:goM G (.blk id a) ks Q env fr h=goM G a (.blk id::ks) Q env fr h:=rfl
@[simp] theorem go_loop{d:List Nat}{a:MC}:goM G (.loop d a) ks Q env fr h=headM G d a h.length ks Q fr h:=wpM_loop
@[simp] theorem go_reg{is:List MI}:goM G (.reg is) ks Q env fr h=regM G false is ks Q [] fr h:=wpM_reg
def altM(G:Gam)(dst:Option Nat)(kept:Bool)(is:List MI)(ks:List MK)(Q:MPost)(fr:List (Nat×AV)):Option (List (AV×Heap))→Prop
 | some alts=>∀ r∈alts,bindM G false dst kept is ks Q [] fr (some r)
 | none=>False
def nxtM(G:Gam)(dst:Option Nat)(kept:Bool)(is:List MI)(ks:List MK)(Q:MPost)(fr:List (Nat×AV))(h:Heap):Option AV→Prop
 | some (.ptr l 0)=>altM G dst kept is ks Q fr (mnxAV h l)
 | _=>False
@[simp] theorem nxtM_ptr{dst:Option Nat}{kept:Bool}{is:List MI}{l:Nat}:nxtM G dst kept is ks Q fr h (some (.ptr l 0))=altM G dst kept is ks Q fr (mnxAV h l):=rfl
theorem run_bind_reg{dst:Option Nat}{kept:Bool}{is:List MI}{r:AV×Heap}:(match run G false is (bindR dst kept [] fr (some r))with
  | .ok env' fr' h'=>contM G ks Q .normal env' fr' h'
  | .bad=>False)=bindM G false dst kept is ks Q [] fr (some r):=by
 obtain ⟨v,h1⟩:=r
 have e:∀ env fr h,(match run G false is (.ok env fr h)with
  | .ok env' fr' h'=>contM G ks Q .normal env' fr' h'
  | .bad=>False)=regM G false is ks Q env fr h:=fun env fr h=>by
  simp only [regM,after] <;> rfl
 cases dst with
 | none=>exact e _ _ _
 | some t=>cases kept <;> exact e _ _ _
theorem alt_eq{dst:Option Nat}{kept:Bool}{is:List MI}{y:Option (List (AV×Heap))}:(match y with
  | some alts=>∀ r∈alts,match run G false is (bindR dst kept [] fr (some r))with
   | .ok env' fr' h'=>contM G ks Q .normal env' fr' h'
   | .bad=>False
  | none=>False)=altM G dst kept is ks Q fr y:=by
 cases y with
 | none=>rfl
 | some alts=>exact propext ⟨fun k r hr=>run_bind_reg.mp (k r hr),fun k r hr=>run_bind_reg.mpr (k r hr)⟩
@[simp] theorem go_rgn{g:At}{dst:Option Nat}{kept:Bool}{is:List MI}:goM G (.rgn g dst kept is) ks Q env fr h=nxtM G dst kept is ks Q fr h (getA (getT [] fr) g):=by
 simp only [goM,wpM]
 generalize getA (getT [] fr) g=x
 cases x with
 | none=>rfl
 | some v=>
  cases v <;> first | rfl | skip
  rename_i l off;cases off with
  | succ _=>rfl
  | zero=>exact alt_eq
@[simp] theorem go_both{a b:MC}:goM G (.both a b) ks Q env fr h=(goM G a ks Q env fr h∧goM G b ks Q env fr h):=rfl
def regE(G:Gam)(h0:Heap)(is:List ME)(ks:List MK)(Q:MPost)(pd:Pend)(env fr:List (Nat×AV))(h:Heap):Prop:=runP G h0 is (fun e f h=>exM G .normal ks Q e f h) pd env fr h
def bindE(G:Gam)(h0:Heap)(dst:Option Nat)(kept:Bool)(is:List ME)(ks:List MK)(Q:MPost)(pf:AV→Pend)(env fr:List (Nat×AV)):Option (AV×Heap)→Prop
 | none=>False
 | some (v,h)=>match dst with
  | none=>regE G h0 is ks Q (pf v) env fr h
  | some t=>if kept then regE G h0 is ks Q (pf v) env (upd t v fr) h else regE G h0 is ks Q (pf v) ((t,v)::env) fr h
def sameE(h0:Heap)(r0 r:Option (AV×Heap)):Prop:=∀ v h,r=some (v,h)→r0=some (v,h0)
@[simp] theorem sameE_some{h0 h:Heap}{v:AV}{r0:Option (AV×Heap)}:sameE h0 r0 (some (v,h))=(r0=some (v,h0)):=by
 apply propext
 exact ⟨fun k=>k v h rfl,fun k v' h' e=>by cases e; exact k⟩
def lateC(G:Gam)(m:MI)(env fr:List (Nat×AV))(v:AV):Heap→Prop:=fun h=>stepV G true m (getT env fr) h=some (v,h)
@[simp] theorem pdDue_nil:pdDue h []=True:=rfl
@[simp] theorem pdDue_zero{m:MI}{e f:List (Nat×AV)}{v:AV}{r:Pend}:pdDue h ((0,lateC G m e f v)::r)=(stepV G true m (getT e f) h=some (v,h)∧pdDue h r):=rfl
@[simp] theorem pdDue_succ{n:Nat}{c:Heap→Prop}{r:Pend}:pdDue h ((n+1,c)::r)=pdDue h r:=rfl
@[simp] theorem pdNext_nil:pdNext []=[]:=rfl
@[simp] theorem pdNext_zero{c:Heap→Prop}{r:Pend}:pdNext ((0,c)::r)=pdNext r:=rfl
@[simp] theorem pdNext_succ{n:Nat}{c:Heap→Prop}{r:Pend}:pdNext ((n+1,c)::r)=(n,c)::pdNext r:=rfl
@[simp] theorem pdNew_nil{m:MI}{v:AV}:pdNew G m env fr v []=[]:=rfl
@[simp] theorem pdNew_cons{m:MI}{v:AV}{d:Nat}{r:List Nat}:pdNew G m env fr v (d::r)=(d,lateC G m env fr v)::pdNew G m env fr v r:=rfl
@[simp] theorem go_rge{is:List ME}:goM G (.rge is) ks Q env fr h=regE G h is ks Q [] [] fr h:=rfl
@[simp] theorem regE_nil{h0:Heap}{pd:Pend}:regE G h0 [] ks Q pd env fr h=(pdDue h pd∧exM G .normal ks Q env fr h):=rfl
@[simp] theorem regE_plain{h0:Heap}{pd:Pend}{ls:List Nat}{g:Option (Nat×Bool)}{d:Option Nat}{k:Bool}{o:AO}{as:List At}{is:List ME}:regE G h0 ((false,ls,⟨g,d,k,o,as⟩)::is) ks Q pd env fr h=(pdDue h pd∧bindE G h0 d k is ks Q (fun v=>pdNew G ⟨g,d,k,o,as⟩ env fr v ls++pdNext pd) env fr (stepV G true ⟨g,d,k,o,as⟩ (getT env fr) h)):=by
 unfold regE
 simp only [runP]
 congr 1
 cases stepV G true ⟨g,d,k,o,as⟩ (getT env fr) h with
 | none=>rfl
 | some r=>obtain ⟨v,h'⟩:=r; cases d <;> simp [bindE,regE]
@[simp] theorem regE_early{h0:Heap}{pd:Pend}{ls:List Nat}{g:Option (Nat×Bool)}{d:Option Nat}{k:Bool}{o:AO}{as:List At}{is:List ME}:regE G h0 ((true,ls,⟨g,d,k,o,as⟩)::is) ks Q pd env fr h=(pdDue h pd∧sameE h0 (stepV G true ⟨g,d,k,o,as⟩ (getT env fr) h0) (stepV G true ⟨g,d,k,o,as⟩ (getT env fr) h)∧bindE G h0 d k is ks Q (fun v=>pdNew G ⟨g,d,k,o,as⟩ env fr v ls++pdNext pd) env fr (stepV G true ⟨g,d,k,o,as⟩ (getT env fr) h)):=by
 unfold regE
 simp only [runP]
 congr 1
 cases hs:stepV G true ⟨g,d,k,o,as⟩ (getT env fr) h with
 | none=>simp [bindE]
 | some r=>obtain ⟨v,h'⟩:=r; rw [sameE_some]; cases d <;> simp [bindE,regE]
@[simp] theorem bindE_none{h0:Heap}{is:List ME}{kept:Bool}{v:AV}{pf:AV→Pend}:bindE G h0 none kept is ks Q pf env fr (some (v,h))=regE G h0 is ks Q (pf v) env fr h:=rfl
@[simp] theorem bindE_env{h0:Heap}{is:List ME}{t:Nat}{v:AV}{pf:AV→Pend}:bindE G h0 (some t) false is ks Q pf env fr (some (v,h))=regE G h0 is ks Q (pf v) ((t,v)::env) fr h:=rfl
@[simp] theorem bindE_fr{h0:Heap}{is:List ME}{t:Nat}{v:AV}{pf:AV→Pend}:bindE G h0 (some t) true is ks Q pf env fr (some (v,h))=regE G h0 is ks Q (pf v) env (upd t v fr) h:=rfl
@[simp] theorem go_rgd{is:List MI}:goM G (.rgd is) ks Q env fr h=regM G true is ks Q [] fr h:=wpM_rgd
def iteM(G:Gam)(a b:MC)(ks:List MK)(Q:MPost)(env fr:List (Nat×AV))(h:Heap):Option AV→Prop
 | some (.bool t)=>goM G (if t then a else b) ks Q env fr h
 | _=>False
@[simp] theorem go_ite{c:At}{a b:MC}:goM G (.ite c a b) ks Q env fr h=iteM G a b ks Q env fr h (getA (getT env fr) c):=by
 simp only [goM,wpM_ite]
 generalize getA (getT env fr) c=r
 cases r with
 | none=>rfl
 | some v=>cases v <;> first | rfl | (rename_i t; cases t <;> rfl)
@[simp] theorem ite_true'{a b:MC}:iteM G a b ks Q env fr h (some (.bool true))=goM G a ks Q env fr h:=rfl
@[simp] theorem ite_false'{a b:MC}:iteM G a b ks Q env fr h (some (.bool false))=goM G b ks Q env fr h:=rfl
@[simp] theorem ex_nil{x:MX}:exM G x [] Q env fr h=Q x env fr h:=rfl
@[simp] theorem ex_normal_seq{b:MC}:exM G .normal (.seq b::ks) Q env fr h=goM G b ks Q env fr h:=rfl
@[simp] theorem ex_exit_seq{b:MC}{i:Nat}:exM G (.exit i) (.seq b::ks) Q env fr h=exM G (.exit i) ks Q env fr h:=rfl
@[simp] theorem ex_ret_seq{b:MC}:exM G .ret (.seq b::ks) Q env fr h=exM G .ret ks Q env fr h:=rfl
@[simp] theorem ex_normal_blk{id:Nat}:exM G .normal (.blk id::ks) Q env fr h=exM G .normal ks Q env fr h:=rfl
@[simp] theorem ex_ret_blk{id:Nat}:exM G .ret (.blk id::ks) Q env fr h=exM G .ret ks Q env fr h:=rfl
@[simp] theorem ex_exit_blk{id i:Nat}:exM G (.exit i) (.blk id::ks) Q env fr h=exM G (if i=id then .normal else .exit i) ks Q env fr h:=by
 simp only [exM,contM,blkQ]; split <;> rfl
@[simp] theorem ex_normal_loop{d:List Nat}{a:MC}{n:Nat}:exM G .normal (.loop d a n::ks) Q env fr h=headM G d a n ks Q fr h:=rfl
@[simp] theorem ex_exit_loop{d:List Nat}{a:MC}{n i:Nat}:exM G (.exit i) (.loop d a n::ks) Q env fr h=exM G (.exit i) ks Q env fr h:=rfl
@[simp] theorem ex_ret_loop{d:List Nat}{a:MC}{n:Nat}:exM G .ret (.loop d a n::ks) Q env fr h=exM G .ret ks Q env fr h:=rfl
theorem head_stepD{d:List Nat}{a:MC}{n:Nat}(hq:goM G a (.loop d a n::ks) Q [] (junkAll d fr) (truncD d n (junkAll d fr) h)):headM G d a n ks Q fr h:=loop_step hq
theorem head_step{d:List Nat}{a:MC}{n:Nat}(hq:goM G a (.loop d a n::ks) Q [] (junkAll d fr) (trunc n (junkAll d fr) h))(hd:d.contains 999999=false:=by rfl):headM G d a n ks Q fr h:=by
 refine head_stepD ?_
 unfold truncD; rw [hd]; exact hq
@[simp] theorem reg_nil:regM G s [] ks Q env fr h=exM G .normal ks Q env fr h:=rfl
@[simp] theorem reg_cons{i:MI}{is:List MI}:regM G s (i::is) ks Q env fr h=bindM G s i.dst i.kept is ks Q env fr (stepV G s i (getT env fr) h):=by
 simp only [regM,run,evalI,bindM]
 cases stepV G s i (getT env fr) h with
 | none=>simp only [bindR,run_bad,after]
 | some vh=>
  obtain ⟨v,h'⟩:=vh;simp only [bindR];cases i.dst with
  | none=>rfl
  | some t=>simp only []; split <;> rfl
@[simp] theorem bind_none{is:List MI}{kept:Bool}{v:AV}:bindM G s none kept is ks Q env fr (some (v,h))=regM G s is ks Q env fr h:=rfl
@[simp] theorem bind_env{is:List MI}{t:Nat}{v:AV}:bindM G s (some t) false is ks Q env fr (some (v,h))=regM G s is ks Q ((t,v)::env) fr h:=rfl
@[simp] theorem bind_fr{is:List MI}{t:Nat}{v:AV}:bindM G s (some t) true is ks Q env fr (some (v,h))=regM G s is ks Q env (upd t v fr) h:=rfl
@[simp] theorem step_op{d:Option Nat}{k:Bool}{o:AO}{args:List At}{e:Nat→Option AV}:stepV G s ⟨none,d,k,o,args⟩ e h=opV G s h o (getAs e args):=by
 simp only [stepV,opV]; split <;> rename_i hx <;> rw [hx]
@[simp] theorem step_guard{d:Option Nat}{k:Bool}{o:AO}{args:List At}{e:Nat→Option AV}{t:Nat}{want:Bool}:stepV G s ⟨some (t,want),d,k,o,args⟩ e h=guardV want h (opV G s h o (getAs e args)) (e t):=by
 simp only [stepV]
 generalize e t=r
 cases r with
 | none=>rfl
 | some v=>cases v <;> first | rfl | (rename_i b; simp only [guardV,opV]; generalize getAs e args=x; cases x <;> rfl) | (rename_i vs; cases vs <;> rfl)
def On(b:Bool):Prop:=b=true
instance {b:Bool}:Decidable (On b):=inferInstanceAs (Decidable (b=true))
@[simp] theorem On_true:On true=True:=by simp [On]
@[simp] theorem On_false:On false=False:=by simp [On]
@[simp] theorem On_not{b:Bool}:On (!b)=¬ On b:=by simp [On]
@[simp] theorem On_decide{p:Prop}[Decidable p]:On (decide p)=p:=by simp [On]
@[simp] theorem decide_On{b:Bool}:decide (On b)=b:=by cases b <;> rfl
@[simp] theorem guard_on{b:Bool}{r:Option (AV×Heap)}:guardV true h r (some (.bool b))=if On b then r else some (skipped,h):=rfl
@[simp] theorem guard_off{b:Bool}{r:Option (AV×Heap)}:guardV false h r (some (.bool b))=if On b then some (skipped,h)else r:=by cases b <;> rfl
@[simp] theorem guard_skip{want:Bool}{r:Option (AV×Heap)}:guardV want h r (some skipped)=some (skipped,h):=rfl
@[simp] theorem getAs_nil{e:Nat→Option AV}:getAs e []=some []:=rfl
def consO:Option AV→Option (List AV)→Option (List AV)
 | some v,some vs=>some (v::vs)
 | _,_=>none
@[simp] theorem getAs_cons{e:Nat→Option AV}{a:At}{as:List At}:getAs e (a::as)=consO (getA e a) (getAs e as):=by
 simp only [getAs]
 generalize getA e a=x
 generalize getAs e as=y
 cases x <;> cases y <;> rfl
@[simp] theorem consO_some{v:AV}{vs:List AV}:consO (some v) (some vs)=some (v::vs):=rfl
@[simp] theorem getA_t{e:Nat→Option AV}{n:Nat}:getA e (.t n)=e n:=rfl
@[simp] theorem getA_c{e:Nat→Option AV}{v:AV}:getA e (.c v)=some v:=rfl
@[simp] theorem getT_hit{t:Nat}{v:AV}:getT ((t,v)::env) fr t=some v:=by simp [getT,lkp]
@[simp] theorem getT_miss{t k:Nat}{v:AV}(hne:t≠k):getT ((k,v)::env) fr t=getT env fr t:=by simp [getT,lkp,hne]
@[simp] theorem getT_nil{t:Nat}:getT [] fr t=lkp t fr:=rfl
@[simp] theorem lkp_hit{t:Nat}{v:AV}:lkp t ((t,v)::fr)=some v:=by simp [lkp]
@[simp] theorem lkp_miss{t k:Nat}{v:AV}(hne:t≠k):lkp t ((k,v)::fr)=lkp t fr:=by simp [lkp,hne]
@[simp] theorem upd_hit{t:Nat}{v x:AV}:upd t v ((t,x)::fr)=(t,v)::fr:=by simp [upd]
@[simp] theorem upd_miss{t k:Nat}{v x:AV}(hne:t≠k):upd t v ((k,x)::fr)=(k,x)::upd t v fr:=by simp [upd,hne]
theorem opV_quiet{o:AO}{vs:List AV}(hq:o.quiet=true):opV G s h o (some vs)=(evalPure h o vs).map fun v=>(v,h):=by
 have hl:o.loud=false:=by cases o <;> simp_all [AO.loud,AO.quiet]
 have he:evalAll G h o vs=evalAO G h o vs:=by cases o <;> first | rfl | cases hq
 cases s <;> simp only [opV,he,hl,Bool.not_false,Bool.and_self,Bool.false_and,if_true,Bool.false_eq_true,if_false,evalStill,evalAO,hq]
 cases evalPure h o vs <;> rfl
theorem opV_eff{o:AO}{vs:List AV}(ht:o.turns=true):opV G s h o (some vs)=evalEff G h o vs:=by
 have hq:o.loud=true:=by cases o <;> first | exact ht | rfl
 have hl:o.quiet=false:=by cases o <;> simp_all [AO.loud,AO.quiet]
 have he:evalAll G h o vs=evalAO G h o vs:=by cases o <;> first | rfl | cases ht
 simp only [opV,he,hq,Bool.not_true,Bool.and_false,Bool.false_eq_true,if_false,evalAO,hl]
@[simp] theorem op_mv{x:AV}:opV G s h .mv (some [x])=some (x,h):=by rw [opV_quiet rfl]; rfl
@[simp] theorem op_pick{c:Bool}{x y:AV}:opV G s h .pick (some [.bool c,x,y])=some (if On c then x else y,h):=by rw [opV_quiet rfl]; rfl
@[simp] theorem op_strid{x:List UInt8}:opV G s h .strid (some [.str x])=some (.str x,h):=by rw [opV_quiet rfl]; rfl
@[simp] theorem op_bin{o:BinOp}{x y:AV}:opV G s h (.bin o) (some [x,y])=(binAV o x y).map fun v=>(v,h):=by rw [opV_quiet rfl]; rfl
@[simp] theorem op_eqB{n b c:Bool}:opV G s h (.eqB n) (some [.bool b,.bool c])=some (.bool (if n then !(b == c)else b == c),h):=by rw [opV_quiet rfl]; rfl
@[simp] theorem op_un{o:UnOp}{x:AV}:opV G s h (.un o) (some [x])=(unAV o x).map fun v=>(v,h):=by rw [opV_quiet rfl]; rfl
@[simp] theorem op_conv{k k':IntKind}{n:Int}:opV G s h (.conv k) (some [.int k' n])=some (.int k (k.wrap n),h):=by rw [opV_quiet rfl]; rfl
@[simp] theorem op_fadr_ptr{o l off:Nat}:opV G s h (.fadr o) (some [.ptr l off])=some (.ptr l (off+o),h):=by rw [opV_quiet rfl]; rfl
@[simp] theorem op_fadr_fptr{o off:Nat}{row:List AV}:opV G s h (.fadr o) (some [.fptr row off])=some (.fptr row (off+o),h):=by rw [opV_quiet rfl]; rfl
@[simp] theorem op_fadr_eptr{o l v i off:Nat}:opV G s h (.fadr o) (some [.eptr l v i off])=some (.eptr l v i (off+o),h):=by rw [opV_quiet rfl]; rfl
@[simp] theorem op_fld{o n:Nat}{g:Bool}{cs:List AV}:opV G s h (.fld o n g) (some [.agg cs])=(mkVal g n (cut cs o n)).map fun v=>(v,h):=by rw [opV_quiet rfl]; rfl
@[simp] theorem op_iadr{n:Nat}{x i:AV}:opV G s h (.iadr n) (some [x,i])=(iadrAV n h x i).map fun v=>(v,h):=by rw [opV_quiet rfl]; rfl
@[simp] theorem op_ld{n:Nat}{g:Bool}{x:AV}:opV G s h (.ld n g) (some [x])=(loadAV n g h x).map fun v=>(v,h):=by rw [opV_quiet rfl]; rfl
@[simp] theorem op_len{k:Nat}{x:AV}:opV G s h (.len k) (some [x])=(lenAV h k x).map fun v=>(v,h):=by rw [opV_quiet rfl]; rfl
@[simp] theorem op_ext{i:Nat}{vs:List AV}:opV G s h (.ext i) (some [.tup vs])=(vs[i]?).map fun v=>(v,h):=by rw [opV_quiet rfl]; rfl
@[simp] theorem op_mkfn{f:FuncId}{vs:List AV}:opV G s h (.mkfn f) (some vs)=some (.fn f vs,h):=by rw [opV_quiet rfl]; rfl
@[simp] theorem op_mkif{t:TypeId}{x:AV}:opV G s h (.mkif t) (some [x])=some (.iface t x,h):=by rw [opV_quiet rfl]; rfl
@[simp] theorem op_bld{z:List AV}{ps:List (Nat×Nat)}{vs:List AV}:opV G s h (.bld z ps) (some vs)=(bldAV z ps vs).map fun v=>(.agg v,h):=by rw [opV_quiet rfl]; simp only [evalPure]; cases bldAV z ps vs <;> rfl
@[simp] theorem op_eqA{n:Bool}{kk:List EK}{xs ys:List AV}:opV G s h (.eqA n kk) (some [.agg xs,.agg ys])=if xs.length=kk.length∧ys.length=kk.length then (eqCells kk xs ys).map (fun b=>(.bool (if n then !b else b),h))else none:=by
 rw [opV_quiet rfl]; simp only [evalPure]; split
 ·cases eqCells kk xs ys <;> rfl
 ·rfl
@[simp] theorem op_alloc{z:List AV}:opV G s h (.alloc z) (some [])=some (.ptr h.length 0,h++[.cells z]):=by rw [opV_eff rfl]; rfl
@[simp] theorem op_newnil{n:Nat}:opV G s h (.newnil n) (some [])=some (.own h.length 0 0,h++[.arr n 0 [] true]):=by rw [opV_eff rfl]; rfl
@[simp] theorem op_mkmap:opV G s h .mkmap (some [])=some (.map h.length,h++[.map []]):=by rw [opV_eff rfl]; rfl
@[simp] theorem op_st{n:Nat}{a v:AV}:opV G s h (.st n) (some [a,v])=(stAV n h a v).map fun h'=>(.junk,h'):=by rw [opV_eff rfl]; rfl
theorem op_call{f:FuncId}{F:List AV→Option AV}{args us:List AV}{r:AV}(hf:G f=some (.pure F))(hv:viewL h args=some us)(hF:F us=some r)(ho:scalar r=true∨ownsL args=[]) :
  opV G s h (.call f) (some args)=some (r,h):=by
 have e1:evalStill G h (.call f) args=some r:=by
  simp only [evalStill,AO.quiet,Bool.false_eq_true,if_false,hf,hv,hF];rcases ho with ho | ho
  ·rw [if_pos ho]
  ·split <;> simp
 have e2:=evalStill_all e1
 cases s
 ·simp only [opV,Bool.false_and,Bool.false_eq_true,if_false]; exact e2
 ·simp only [opV,AO.loud,Bool.not_false,Bool.and_self,if_true,e1,Option.map_some]
theorem op_call_frz{f:FuncId}{F:List AV→Option AV}{args us:List AV}{r:AV}(hf:G f=some (.pure F))(hv:viewL h args=some us)(hF:F us=some r)(ho:scalar r=false) :
  opV G false h (.call f) (some args)=some (r,freezeAll h (ownsL args)):=by
 simp only [opV,Bool.false_and,Bool.false_eq_true,if_false,evalAll,evalAO,AO.quiet,evalEff,callAV,hf,hv,hF,ho]
end
end Go.Proofs.YtpefhfiehfkocaaGreatDoor
namespace Go.Proofs.YtpefhfiehfkocaaGreatDoor
open Go.RowKit
section
variable {G:Gam} {s:Bool} {ks:List MK} {Q:MPost} {env fr:List (Nat×AV)} {h:Heap}
@[simp] theorem ex_ret_all{ks:List MK}:exM G .ret ks Q env fr h=Q .ret env fr h:=by
 induction ks with
 | nil=>rfl
 | cons k ks ih=>cases k <;> simpa using ih
theorem head_go{d:List Nat}{a a':MC}{n:Nat}(ha:a=a')(hq:goM G a' (.loop d a n::ks) Q [] (junkAll d fr) (trunc n (junkAll d fr) h))(hd:d.contains 999999=false:=by rfl):headM G d a n ks Q fr h:=by
 subst ha; exact head_step hq hd
theorem head_goN{d:List Nat}{a a':MC}{n:Nat}(ha:a=a')(hq:goM G a' (.loop d a n::ks) Q [] (junkAll d fr) h)(hd:d.contains 999999=true:=by rfl):headM G d a n ks Q fr h:=by
 subst ha; refine head_stepD ?_; unfold truncD; rw [hd]; exact hq
theorem junkAll_idem(d:List Nat):∀ fr:List (Nat×AV),junkAll d (junkAll d fr)=junkAll d fr
 | []=>rfl
 | (k,v)::r=>by
  simp only [junkAll,junkAll_idem d r];by_cases h:k∈d <;> simp [h]
theorem trunc_idem(n:Nat)(fr:List (Nat×AV))(h:Heap):trunc n fr (trunc n fr h)=trunc n fr h:=by
 by_cases hc:(lowFr n fr&&lowH n (h.take n))=true
 ·have e:trunc n fr h=h.take n:=by simp only [trunc,hc,if_true]
  rw [e];simp only [trunc,List.take_take,Nat.min_self,ite_self]
 ·have e:trunc n fr h=h:=by simp only [trunc,hc]; rfl
  rw [e,e]
theorem head_of{d:List Nat}{a:MC}{n:Nat}(hq:headM G d a n ks Q (junkAll d fr) (trunc n (junkAll d fr) h))(hd:d.contains 999999=false:=by rfl):headM G d a n ks Q fr h:=by
 obtain ⟨N,hr⟩:=hq
 refine ⟨N,?_⟩
 cases N with
 | zero=>exact hr
 | succ N=>
  simp only [roundsM]at hr ⊢;simp only [truncD,hd,Bool.false_eq_true,if_false]at hr ⊢;rw [junkAll_idem,trunc_idem]at hr;exact hr
theorem op_app{n b l ver k:Nat}{x:AV}{new rows:List (List AV)}(hx:rowsOf h x=some new)(hl:h[l]?=some (.arr n ver rows true))(hk:k=rows.length)(hs:sizesOk n new=true)(hne:new≠[])(h1:(k+new.length)*b≤byteMax)(h2:k+new.length≤byteMax) :
  opV G s h (.app false n b) (some [.own l ver k,x])=some (.own l (ver+new.length) (k+new.length),h.set l (.arr n (ver+new.length) (rows++new) true)):=by
 rw [opV_eff rfl]
 simp only [evalEff,appRows,Bool.false_eq_true,if_false,hx,hs,if_true,appAV,hl]
 rw [if_pos ⟨trivial,hk,trivial,trivial⟩,if_neg hne,if_pos ⟨h1,h2⟩,tagJoin_none]
@[simp] theorem op_bsl{n:Nat}{vs:List AV}{s:Bool}(ho:ownsL vs=[]):opV G s h (.bsl false n) (some vs)=(viewL h vs).bind fun us=>if sizesOk n (us.map AV.cells)∧onesOk (us.map AV.cells)∧0<n∧us.length*n≤16777216 then some (.tsl (us.map AV.cells),h)else none:=by
 cases s
 ·simp only [opV,Bool.false_and,Bool.false_eq_true,if_false,evalAll,evalAO,AO.quiet,evalEff,frzL,ho,freezeAll]
  cases viewL h vs <;> rfl
 ·simp only [opV,AO.loud,Bool.not_false,Bool.and_self,if_true,evalStill,AO.quiet,Bool.false_eq_true,if_false,ho]
  cases viewL h vs with
  | none=>rfl
  | some us=>simp only [Option.bind_some]; split <;> rfl
theorem iadr_sl{size i:Nat}{rows:List (List AV)}{row:List AV}{k:IntKind}(h1:rows[i]?=some row)(h2:row.length=size):iadrAV size h (.sl rows) (.int k i)=some (.fptr row 0):=by
 simp [iadrAV,h1,h2]
@[simp] theorem load_fptr{size off:Nat}{agg:Bool}{row:List AV}:loadAV size agg h (.fptr row off)=mkVal agg size (cut row off size):=rfl
@[simp] theorem mkVal_one'{size:Nat}{v:AV}:mkVal false size [v]=some v:=rfl
end
end Go.Proofs.YtpefhfiehfkocaaGreatDoor
