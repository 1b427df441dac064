/- A region: how it is resolved,one operation in a frame,regions in the order of the text. Regions that draw their order: whatever order is drawn,what the text's order leaves. Regions in which what on -/
import Derived.Test.YtpefhfiehfkocaaGreatDoorAm5
import Derived.OrdersIn
import Derived.StillTail
import Derived.Scope
import Derived.ControlIn
namespace Go.Proofs.YtpefhfiehfkocaaGreatDoor
open Go.RowKit
def fR(ro:Option Nat):Fence:={ Fence.wide with round:=ro }
theorem callsIn_fR{P:Program}{ro:Option Nat}{n:Nat}{f:FuncId}{args:Array Value}{w:World}{R:Ending→World→Prop}(h:Calls P f args w R):CallsIn (fR ro) n P f args w R:=
 (callsIn_wide (n:=n)).2 h
theorem roundIn_fR{P:Program}{ro:Option Nat}{l:Nat}{f:FuncId}{tmps:Array Value}{assign body:Code}{w:World}{R:Ending→World→Prop}(h:RoundIn Fence.wide 0 P l f tmps assign body w R):RoundIn (fR ro) 0 P l f tmps assign body w R:=h
theorem fR_depth{ro:Option Nat}{p:Prop}:(fR ro).depth.isSome=true→p:=fun h=>by simp [fR,Fence.wide]at h
def botMI:MI:=⟨none,none,false,.bot,[]⟩
def compOpB(P:Program)(own k:Bool)(o:Oper):Option (AO×List Operand):=
 match (if k then compK P own o.op else none)with
 | some r=>some r
 | none=>match compOp P own o with
  | some r=>some r
  | none=>if o.guard.isSome then some (.bot,[])else none
def genCall(ow:List Nat):AO→AO
 | .call f=>if ow.contains (1000000+f)then .callg f else .call f
 | o=>o
theorem evalAO_genCall{G:Gam}{h:Heap}{ow:List Nat}{o:AO}{vs:List AV}:evalAO G h (genCall ow o) vs=evalAO G h o vs:=by
 cases o <;> first | rfl | skip
 simp only [genCall]
 split <;> rfl
def genPre(ow:List Nat):AO→AO
 | .call f=>.pre [.settle] (.call f)
 | .app str n b=>.pre [.settle,.slot 0] (.app str n b)
 | .st n=>.pre [.nest] (.st n)
 | .newnil n=>match ow.find? fun x=>decide (4000000<x∧x<5000000)with
  | some m=>.pre [.spare (m-4000001)] (.newnil n)
  | none=>.newnil n
 | o=>o
def genSt(ow:List Nat):AO→AO
 | .st n=>.pre [.frzv] (.st n)
 | o=>genCall ow o
theorem genSt_of{ow:List Nat}(o:AO):genSt ow o=genCall ow o∨genSt ow o=.pre [.frzv] o:=by
 cases o <;> first | exact .inl rfl | exact .inr rfl
def genAO(ow:List Nat)(o:AO):AO:=match o with
 | .pre _ _=>.bot
 | o=>if ow.contains 4000000 then genPre ow o else if ow.contains 7000000 then genSt ow o else genCall ow o
theorem genPre_of{ow:List Nat}(o:AO):genPre ow o=o∨∃ ks,genPre ow o=.pre ks o:=by
 cases o <;> first | exact .inl rfl | exact .inr ⟨_,rfl⟩ | skip
 simp only [genPre]
 split
 ·exact .inr ⟨_,rfl⟩
 ·exact .inl rfl
theorem evalAll_eq{G:Gam}{h:Heap}{o:AO}{vs:List AV}(ho:∀ ks q,o≠.pre ks q):evalAll G h o vs=evalAO G h o vs:=by
 cases o <;> first | rfl | exact absurd rfl (ho _ _)
theorem evalAO_pre{G:Gam}{h:Heap}{ks:List PK}{o:AO}{vs:List AV}:evalAO G h (.pre ks o) vs=none:=by
 simp [evalAO,AO.quiet,evalEff]
theorem evalAO_gen{G:Gam}{h:Heap}{ow:List Nat}{o:AO}{vs:List AV}{r:AV×Heap}(hm:evalAO G h (genAO ow o) vs=some r):evalAO G h o vs=some r:=by
 have key:evalAO G h (if ow.contains 4000000 then genPre ow o else if ow.contains 7000000 then genSt ow o else genCall ow o) vs=some r→evalAO G h o vs=some r:=fun hm=>by
  split at hm
  ·rcases genPre_of (ow:=ow) o with e | ⟨ks,e⟩
   ·rw [e]at hm; exact hm
   ·rw [e,evalAO_pre]at hm; cases hm
  ·split at hm
   ·rcases genSt_of (ow:=ow) o with e | e
    ·rw [e,evalAO_genCall]at hm; exact hm
    ·rw [e,evalAO_pre]at hm; cases hm
   ·rw [evalAO_genCall]at hm; exact hm
 cases o <;> first | exact key hm | (simp [genAO,evalAO,AO.quiet,evalPure]at hm)
theorem evalAll_gen{G:Gam}{h:Heap}{ow:List Nat}{o:AO}{vs:List AV}{r:AV×Heap}(hm:evalAll G h (genAO ow o) vs=some r):∃ ks h1 vs1,preAVs ks h vs=some (h1,vs1)∧evalAO G h1 o vs1=some r:=by
 have key:(∀ ks q,o≠.pre ks q)→evalAll G h (if ow.contains 4000000 then genPre ow o else if ow.contains 7000000 then genSt ow o else genCall ow o) vs=some r→∃ ks h1 vs1,preAVs ks h vs=some (h1,vs1)∧evalAO G h1 o vs1=some r:=fun ho hm=>by
  split at hm
  ·rcases genPre_of (ow:=ow) o with e | ⟨ks,e⟩
   ·rw [e,evalAll_eq ho]at hm; exact ⟨[],h,vs,rfl,hm⟩
   ·rw [e]at hm
    simp only [evalAll]at hm;split at hm
    ·rename_i h1 vs1 hp; exact ⟨ks,h1,vs1,hp,hm⟩
    ·cases hm
  ·have plain:evalAll G h (genCall ow o) vs=some r→∃ ks h1 vs1,preAVs ks h vs=some (h1,vs1)∧evalAO G h1 o vs1=some r:=fun hm=>by
    refine ⟨[],h,vs,rfl,?_⟩
    rw [← evalAO_genCall (ow:=ow),← evalAll_eq (o:=genCall ow o)]
    ·exact hm
    ·intro ks q e
     cases o <;> first | (simp only [genCall]at e; cases e; done) | (simp only [genCall]at e; split at e <;> cases e; done) | exact ho _ _ rfl
   split at hm
   ·rcases genSt_of (ow:=ow) o with e | e
    ·rw [e]at hm; exact plain hm
    ·rw [e]at hm
     simp only [evalAll]at hm;split at hm
     ·rename_i h1 vs1 hp; exact ⟨_,h1,vs1,hp,hm⟩
     ·cases hm
   ·exact plain hm
 cases o <;> first | exact key (fun _ _ e=>by cases e) hm | (simp [genAO,evalAll,evalAO,AO.quiet,evalPure]at hm)
def owAt(ow:List Nat):List At→List Nat
 | .t a::_=>if ow.contains (7000001+a)then 7000000::ow else ow
 | _=>ow
def compMI(P:Program)(gv:Gv)(ks:List Nat)(n:Nat)(ow:List Nat)(ops:Array Oper)(o:Oper):MI:=
 match compOpB P ((o.dst.map fun t=>ow.contains t).getD false) ((o.dst.map fun t=>ow.contains (5000000+t)).getD false) o with
 | some (ao,xs)=>match compAts gv xs with
  | some ats=>
   if (o.dst.map fun t=>decide (t<n)).getD true then
    match o.guard with
    | none=>⟨none,o.dst,(o.dst.map fun t=>ks.contains t).getD false,genAO (owAt ow ats) ao,ats⟩
    | some (j,b)=>match (ops[j]?).bind (·.dst)with
     | some t=>⟨some (t,b),o.dst,(o.dst.map fun t=>ks.contains t).getD false,genAO (owAt ow ats) ao,ats⟩
     | none=>botMI
   else botMI
  | none=>botMI
 | none=>botMI
def compReg(P:Program)(gv:Gv)(ks:List Nat)(n:Nat)(ow:List Nat)(ops:Array Oper):List MI:=ops.toList.map (compMI P gv ks n ow ops)
def RelT(C:Cx)(e:Nat→Option AV)(a:Act):Prop:=∀ t x,e t=some x→∃ u,a.tmps[t]?=some u∧Rel C x u
section
variable {P:Program} {B:Base} {C D:Cx} {h:Heap} {w w':World} {G:Gam} {a:Act}
theorem RelT.mono{e:Nat→Option AV}(h:RelT C e a)(hl:C.Le D):RelT D e a:=fun t x hx=>let ⟨u,h1,h2⟩:=h t x hx; ⟨u,h1,h2.mono hl⟩
theorem eval_at_rel(hi:Inv B C h w){e:Nat→Option AV}(hr:RelT C e a){x:Operand}{at_:At}{v:AV}(hc:compAt B.gv x=some at_)(hv:getA e at_=some v):Rel C v (a.eval x):=by
 cases x with
 | tmp t=>
  simp only [compAt,Option.some.injEq]at hc; subst hc;obtain ⟨u,h1,h2⟩:=hr t v hv;have:a.eval (.tmp t)=u:=by simp [Act.eval,h1]
  rw [this]; exact h2
 | const k=>
  simp only [compAt,Option.map_eq_some_iff]at hc;obtain ⟨c,h1,rfl⟩:=hc;simp only [getA,Option.some.injEq]at hv; subst hv;exact ofValue_rel h1
 | global g=>
  simp only [compAt,Option.map_eq_some_iff]at hc;obtain ⟨r,hg,rfl⟩:=hc;simp only [getA,Option.some.injEq]at hv; subst hv;exact (hi.gl g r hg).mono C.frozen_le
 | func f=>
  simp only [compAt,Option.some.injEq]at hc; subst hc;simp only [getA,Option.some.injEq]at hv; subst hv;exact .fn f [] #[] rfl (fun i c v hc=>by simp at hc)
theorem eval_ats_rel(hi:Inv B C h w){e:Nat→Option AV}(hr:RelT C e a):∀ {xs:List Operand} {ats:List At} {vs:List AV},compAts B.gv xs=some ats→getAs e ats=some vs→RelL C vs (xs.map a.eval)
 | [],ats,vs,hc,hv=>by simp [compAts]at hc; subst hc; simp [getAs]at hv; subst hv; exact .nil
 | x::xs,ats,vs,hc,hv=>by
  simp only [compAts]at hc;split at hc
  ·rename_i at_ ats' h1 h2
   injection hc with hc; subst hc
   simp only [getAs]at hv;split at hv
   ·rename_i v vs' h3 h4
    injection hv with hv; subst hv
    exact .cons (eval_at_rel hi hr h1 h3) (eval_ats_rel hi hr h2 h4)
   ·cases hv
  ·cases hc
theorem evalStill_all{o:AO}{vs:List AV}{v:AV}(he:evalStill G h o vs=some v):evalAO G h o vs=some (v,h):=by
 unfold evalStill at he
 split at he
 ·rename_i hq
  simp only [evalAO,hq,if_true,he]
 ·rename_i hq
  have hq':o.quiet=false:=by simpa using hq
  simp only [evalAO,hq',Bool.false_eq_true,if_false];split at he
  ·rename_i f
   split at he
   ·rename_i F hf
    split at he
    ·rename_i us hus
     split at he
     ·rename_i r hr
      simp only [evalEff,callAV,hf,hus,hr];split at he
      ·rename_i hs; injection he with he; subst he; simp [hs]
      ·rename_i hs
       split at he
       ·rename_i ho; injection he with he; subst he; simp [hs,ho,freezeAll]
       ·cases he
     ·cases he
    ·cases he
   ·cases he
  ·rename_i size
   split at he
   ·rename_i ho
    split at he
    ·rename_i us hus
     split at he
     ·rename_i hc
      injection he with he; subst he
      simp only [evalEff,frzL,hus,Option.map_some,ho,freezeAll];rw [if_pos hc]; rfl
     ·cases he
    ·cases he
   ·cases he
  ·cases vs with
   | nil=>cases he
   | cons x bs=>
    simp only at he;simp only [evalEff];split at he
    ·rename_i l r m hargs
     simp only [slcOwn,he]
    ·cases he
  ·cases he
theorem bot_none(s:Bool)(e:Nat→Option AV):stepV G s botMI e h=none:=by
 cases s <;> simp [stepV,botMI,getAs,AO.loud,AO.quiet,evalAll,evalAO,evalPure,evalStill]
theorem put_size'(a:Act)(d:Option Nat)(u:Value):(a.put d u).tmps.size=a.tmps.size:=by
 cases d <;> simp [Act.put]
theorem put_defers'(a:Act)(d:Option Nat)(u:Value):(a.put d u).defers=a.defers:=by
 cases d <;> rfl
theorem op_soundB(hG:GamB P B G)(hi:Inv B C h w){own k:Bool}{oper:Oper}{ao:AO}{xs:List Operand}(hc:compOpB P own k oper=some (ao,xs)){vals:List AV}{v:AV}{h':Heap}{ρ:Operand→Value}
  (hρ:∀ u,ρ (.const u)=u) (hρf:∀ f,ρ (.func f)=.func (.func f) #[] #[]) (hrel:RelL C vals (xs.map ρ)) (hev:evalAO G h ao vals=some (v,h')) :
  Comes1 P (fun u w'=>∃ D,C.Le D∧Inv B D h' w'∧Rel D v u∧Keep B w w') ((execOp ρ oper).run P w):=by
 unfold compOpB at hc
 split at hc
 ·rename_i r hr
  injection hc with hc; subst hc
  split at hr
  ·obtain ⟨n,u,D,w',e1,e2,e3,e4,e5,e6⟩:=K_sound hi hr rfl hrel hev
   rw [e1];rcases e2 with rfl | ⟨rfl,rfl⟩
   ·exact ⟨D,e3,e4,e5,e6⟩
   ·exact ⟨D,e3,e4,e5,e6⟩
  ·cases hr
 split at hc
 ·rename_i r hr
  injection hc with hc; subst hc
  exact op_sound hG hi hr hρ hρf hrel hev
 ·split at hc
  ·simp only [Option.some.injEq,Prod.mk.injEq]at hc
   obtain ⟨rfl,rfl⟩:=hc;simp [evalAO,AO.quiet,evalPure]at hev
  ·cases hc
theorem compOp_defer{own:Bool}{o:Oper}{c:Call}(h:o.op=.defer c):compOp P own o=none:=by
 simp [compOp,compCall,compSlcf,compB,compEff,compMore,compPure,h]
theorem step_sound{ro:Option Nat}(hG:GamB P B G)(hi:Inv B C h w){e:Nat→Option AV}(hr:RelT C e a){ks ow:List Nat}{n:Nat}{ops:Array Oper}{k:Nat}{o:Oper}(ho:ops[k]?=some o){s:Bool}{v:AV}{h':Heap}
  (hs:stepV G s (compMI P B.gv ks n ow ops o) e h=some (v,h')) {Q:Exit→Act→World→Prop} {K:Act→World→Prop}
  (hK:∀ u D w',C.Le D→Inv B D h' w'→Rel D v u→Keep B w w'→K (a.put o.dst u) w'):wpOpIn (fR ro) 0 P ops Q k K a w:=by
 unfold wpOpIn
 simp only [ho]
 have notbot:compMI P B.gv ks n ow ops o≠botMI:=fun e1=>by rw [e1,bot_none]at hs; cases hs
 unfold compMI at hs notbot
 split at hs
 ·rename_i ao xs hco
  split at hs
  ·rename_i ats hats
   split at hs
   ·rename_i hd
    have go:(match getAs e ats with
      | some vs=>if s&&!(genAO (owAt ow ats) ao).loud then (evalStill G h (genAO (owAt ow ats) ao) vs).map fun v=>(v,h)else evalAll G h (genAO (owAt ow ats) ao) vs
      | none=>none)=some (v,h')→o.wpIn (fR ro) 0 P a w K Q:=by
     intro hm;split at hm
     ·rename_i vs hvs
      have hev0:∃ ks h1 vs1,preAVs ks h vs=some (h1,vs1)∧evalAO G h1 ao vs1=some (v,h'):=by
       split at hm
       ·simp only [Option.map_eq_some_iff,Prod.mk.injEq]at hm
        obtain ⟨v',h1,rfl,rfl⟩:=hm;exact ⟨[],_,vs,rfl,evalAO_gen (evalStill_all h1)⟩
       ·exact evalAll_gen hm
      obtain ⟨pks,h1,vs1,hpre,hev⟩:=hev0;obtain ⟨C',hCC,hi',hr'⟩:=pres_sound hi (eval_ats_rel hi hr hats hvs) hpre;have hK:∀ u D w',C'.Le D→Inv B D h' w'→Rel D v u→Keep B w w'→K (a.put o.dst u) w':=fun u D w' q=>hK u D w' (hCC.trans q)
      have hc:=op_soundB hG hi' hco (ρ:=a.eval) (fun _=>rfl) (fun _=>rfl) hr' hev;unfold Oper.wpIn;refine ⟨fun _ _=>trivial,?_⟩
      have hsem:Oper.semAt (fR ro).round a.eval o=execOp a.eval o:=Oper.semAt_eq _ _ _ fun c hcd=>by
       unfold compOpB at hco;have hk:(if (o.dst.map fun t=>ow.contains (5000000+t)).getD false then compK P ((o.dst.map fun t=>ow.contains t).getD false) o.op else none)=none:=by simp [compK,hcd]
       rw [compOp_defer hcd,hk]at hco;simp only at hco;split at hco
       ·simp only [Option.some.injEq,Prod.mk.injEq]at hco
        obtain ⟨rfl,rfl⟩:=hco;simp [evalAO,AO.quiet,evalPure]at hev
       ·cases hco
      rw [hsem];generalize (execOp a.eval o).run P w=res at hc;cases res with
      | halt x w'=>exact hc.elim
      | ok nx w'=>
       cases nx with
       | value u=>obtain ⟨D,k1,k2,k3,k4⟩:=hc; exact hK u D w' k1 k2 k3 k4
       | skip=>obtain ⟨D,k1,k2,k3,k4⟩:=hc; exact hK _ D w' k1 k2 k3 k4
       | enter f args=>
        refine ⟨fR_depth,callsIn_fR (Calls.mono hc fun e w'' hk=>?_)⟩
        obtain ⟨u,rfl,D,k1,k2,k3,k4⟩:=hk;exact hK u D w'' k1 k2 k3 k4
       | round l f tmps assign body=>
        refine ⟨fR_depth,roundIn_fR (RoundIn.mono hc fun e w'' hk=>?_)⟩
        obtain ⟨u,rfl,D,k1,k2,k3,k4⟩:=hk;exact hK u D w'' k1 k2 k3 k4
       | _=>exact hc.elim
     ·cases hm
    have undef_rel:Rel C skipped undef:=.tup [] #[] rfl (fun i c v hc=>by simp at hc);split at hs
    ·rename_i hg
     have hw:Region.wanted o (yielded ops a.tmps)=true:=by simp [Region.wanted,hg]
     rw [if_pos hw];exact go hs
    ·rename_i j b hg
     split at hs
     ·rename_i t ht
      simp only [stepV]at hs;split at hs
      ·rename_i b' hb'
       obtain ⟨u,hu1,hu2⟩:=hr t _ hb';have:=bool_inv hu2; subst this;have hy:yielded ops a.tmps j=some b':=by simp [yielded,ht,hu1]
       split at hs
       ·rename_i hbb
        rw [if_pos (by simp [Region.wanted,hg,hy,hbb])];exact go hs
       ·rename_i hbb
        rw [if_neg (by simp [Region.wanted,hg,hy,hbb])];simp only [Option.some.injEq,Prod.mk.injEq]at hs; obtain ⟨rfl,rfl⟩:=hs;exact ⟨fun _ _=>trivial,hK undef C w (.refl C) hi undef_rel (Keep.refl _ _)⟩
      ·rename_i hb'
       obtain ⟨u,hu1,hu2⟩:=hr t _ hb';have hy:yielded ops a.tmps j=none:=by
        cases hu2
        simp [yielded,ht,hu1]
       rw [if_neg (by simp [Region.wanted,hg,hy])];simp only [Option.some.injEq,Prod.mk.injEq]at hs; obtain ⟨rfl,rfl⟩:=hs;exact ⟨fun _ _=>trivial,hK undef C w (.refl C) hi undef_rel (Keep.refl _ _)⟩
      ·cases hs
     ·rw [bot_none]at hs; cases hs
   ·rw [bot_none]at hs; cases hs
  ·rw [bot_none]at hs; cases hs
 ·rw [bot_none]at hs; cases hs
theorem compMI_dst{ks ow:List Nat}{n:Nat}{ops:Array Oper}{o:Oper}(hne:compMI P B.gv ks n ow ops o≠botMI) :
  (compMI P B.gv ks n ow ops o).dst=o.dst∧(compMI P B.gv ks n ow ops o).kept=(o.dst.map fun t=>ks.contains t).getD false∧(∀ t,o.dst=some t→t<n):=by
 unfold compMI at hne ⊢
 split at hne
 ·split at hne
  ·split at hne
   ·rename_i hd
    have hd':∀ t,o.dst=some t→t<n:=fun t ht=>by simpa [ht] using hd
    rw [if_pos hd];split at hne
    ·exact ⟨rfl,rfl,hd'⟩
    ·split at hne
     ·exact ⟨rfl,rfl,hd'⟩
     ·exact absurd rfl hne
   ·exact absurd rfl hne
  ·exact absurd rfl hne
 ·exact absurd rfl hne
def Sep(ks:List Nat)(env:List (Nat×AV)):Prop:=∀ t v,lkp t env=some v→ks.contains t=false
def Keys(ks:List Nat)(fr:List (Nat×AV)):Prop:=∀ t v,lkp t fr=some v→ks.contains t=true
theorem lkp_upd(t:Nat)(v:AV):∀ (l:List (Nat×AV)) (k:Nat),lkp k (upd t v l)=if k=t then (lkp k l).map (fun _=>v)else lkp k l
 | [],k=>by simp [upd,lkp]
 | (k',x)::r,k=>by
  simp only [upd];by_cases h1:t=k'
  ·subst h1
   simp only [if_true,lkp];by_cases h2:k=t
   ·simp [h2]
   ·simp [h2]
  ·simp only [if_neg h1,lkp,lkp_upd t v r k]
   by_cases h2:k=k'
   ·subst h2
    simp only [if_true];rw [if_neg (fun e=>h1 e.symm)]
   ·simp only [if_neg h2]
theorem bind_get{ks:List Nat}{env fr env' fr':List (Nat×AV)}{dst:Option Nat}{kept:Bool}{v:AV}{h h':Heap}(hsep:Sep ks env)(hk:kept=(dst.map fun t=>ks.contains t).getD false)
  (hb:bindR dst kept env fr (some (v,h))=.ok env' fr' h'):h'=h∧Sep ks env'∧(Keys ks fr→Keys ks fr')∧∀ t x,getT env' fr' t=some x→(dst=some t∧x=v)∨(dst≠some t∧getT env fr t=some x):=by
 unfold bindR at hb
 cases dst with
 | none=>
  simp only [R.ok.injEq]at hb; obtain ⟨rfl,rfl,rfl⟩:=hb;exact ⟨rfl,hsep,id,fun t x hx=>.inr ⟨by simp,hx⟩⟩
 | some d=>
  simp only [Option.map_some,Option.getD_some]at hk;simp only at hb;split at hb
  ·rename_i hkt
   simp only [R.ok.injEq]at hb; obtain ⟨rfl,rfl,rfl⟩:=hb;refine ⟨rfl,hsep,fun hks t x hx=>?_,fun t x hx=>?_⟩
   ·rw [lkp_upd]at hx
    split at hx
    ·rename_i e; subst e
     simp only [Option.map_eq_some_iff]at hx;obtain ⟨y,hy,_⟩:=hx;exact hks t y hy
    ·exact hks t x hx
   by_cases htd:t=d
   ·subst htd
    left
    have hn:lkp t env=none:=by
     cases hl:lkp t env with
     | none=>rfl
     | some y=>have:=hsep t y hl; rw [← hk,hkt]at this; cases this
    simp only [getT,hn,lkp_upd,if_true,Option.map_eq_some_iff]at hx;obtain ⟨_,_,rfl⟩:=hx;exact ⟨rfl,rfl⟩
   ·right
    refine ⟨fun e=>htd (by injection e with e; exact e.symm),?_⟩
    simpa only [getT,lkp_upd,if_neg htd] using hx
  ·rename_i hkt
   simp only [R.ok.injEq]at hb; obtain ⟨rfl,rfl,rfl⟩:=hb;refine ⟨rfl,fun t x hx=>?_,id,fun t x hx=>?_⟩
   ·simp only [lkp]at hx
    split at hx
    ·rename_i e; subst e; rw [← hk]; simpa using hkt
    ·exact hsep t x hx
   ·by_cases htd:t=d
    ·subst htd
     left; simp only [getT,lkp,if_true,Option.some.injEq]at hx; exact ⟨rfl,hx.symm⟩
    ·right
     refine ⟨fun e=>htd (by injection e with e; exact e.symm),?_⟩
     simpa only [getT,lkp,if_neg htd] using hx
theorem RelT.put{e e':Nat→Option AV}(hr:RelT C e a){dst:Option Nat}{v:AV}{u:Value}(hu:Rel C v u)(hd:∀ t,dst=some t→t<a.tmps.size)(he:∀ t x,e' t=some x→(dst=some t∧x=v)∨(dst≠some t∧e t=some x)):RelT C e' (a.put dst u):=by
 intro t x hx
 rcases he t x hx with ⟨h1,rfl⟩ | ⟨h1,h2⟩
 ·subst h1
  exact ⟨u,by simp [Act.put,hd t rfl],hu⟩
 ·obtain ⟨y,h3,h4⟩:=hr t x h2
  refine ⟨y,?_,h4⟩
  cases dst with
  | none=>exact h3
  | some d=>
   simp only [Act.put];rw [Array.getElem?_setIfInBounds_ne (fun e=>h1 (by rw [e]))];exact h3
structure StOK (ks:List Nat) (n:Nat) (B:Base) (C:Cx) (env fr:List (Nat×AV)) (h:Heap) (a:Act) (w:World):Prop where
 inv:Inv B C h w
 rel:RelT C (getT env fr) a
 sep:Sep ks env
 keys:Keys ks fr
 size:n≤a.tmps.size
theorem run_bad(G:Gam)(s:Bool):∀ is:List MI,run G s is .bad=.bad
 | []=>rfl
 | i::is=>by simp only [run,evalI]; exact run_bad G s is
theorem list_sound{ro:Option Nat}(hG:GamB P B G){ks ow:List Nat}{n:Nat}{ops:Array Oper}{s:Bool}{Q:Exit→Act→World→Prop}{d:List Deferred}{w0:World}{C0:Cx}{env' fr':List (Nat×AV)}{h':Heap} :
  ∀ (l:List Nat) (os:List Oper) (env fr:List (Nat×AV)) (h:Heap) (C:Cx) (a:Act) (w:World),l.map (fun i=>ops[i]?)=os.map some→StOK ks n B C env fr h a w→a.defers=d→C0.Le C→Keep B w0 w→
   run G s (os.map (compMI P B.gv ks n ow ops)) (.ok env fr h)=.ok env' fr' h'→
   (∀ D a' w',C0.Le D→StOK ks n B D env' fr' h' a' w'→a'.defers=d→Keep B w0 w'→Q .normal a' w')→wpOpsIn (fR ro) 0 P ops Q l a w
 | [],os,env,fr,h,C,a,w,hl,hst,hd,hle,hbw,hrun,hQ=>by
  cases os with
  | nil=>
   simp only [List.map_nil,run,R.ok.injEq]at hrun; obtain ⟨rfl,rfl,rfl⟩:=hrun;exact hQ C a w hle hst hd hbw
  | cons _ _=>simp at hl
 | i::l,os,env,fr,h,C,a,w,hl,hst,hd,hle,hbw,hrun,hQ=>by
  cases os with
  | nil=>simp at hl
  | cons o os=>
   simp only [List.map_cons,List.cons.injEq]at hl;obtain ⟨ho,hl⟩:=hl;rw [wpOpsIn_cons];simp only [List.map_cons,run,evalI]at hrun;cases hs:stepV G s (compMI P B.gv ks n ow ops o) (getT env fr) h with
   | none=>rw [hs]at hrun; simp only [bindR,run_bad]at hrun; cases hrun
   | some vh=>
    obtain ⟨v,h1⟩:=vh;rw [hs]at hrun;have hne:compMI P B.gv ks n ow ops o≠botMI:=fun e1=>by rw [e1,bot_none]at hs; cases hs
    obtain ⟨c1,c2,c3⟩:=compMI_dst hne;rw [c1,c2]at hrun;generalize hb:bindR o.dst ((o.dst.map fun t=>ks.contains t).getD false) env fr (some (v,h1))=r1 at hrun;cases r1 with
    | bad=>rw [run_bad]at hrun; cases hrun
    | ok env1 fr1 h2=>
     obtain ⟨rfl,hsep,hkeys,hget⟩:=bind_get hst.sep rfl hb;refine step_sound hG hst.inv hst.rel ho hs (fun u D w' k1 k2 k3 k4=>?_)
     exact list_sound hG l os env1 fr1 h2 D (a.put o.dst u) w' hl
      ⟨k2,(hst.rel.mono k1).put k3 (fun t ht=>Nat.lt_of_lt_of_le (c3 t ht) hst.size) hget,hsep,hkeys hst.keys,by rw [put_size']; exact hst.size⟩ (by rw [put_defers']; exact hd) (hle.trans k1) (hbw.trans k4) hrun hQ
theorem range_get(ops:Array Oper):(List.range ops.size).map (fun i=>ops[i]?)=ops.toList.map some:=by
 apply List.ext_getElem?
 intro i
 by_cases hi:i<ops.size
 ·simp [hi]
 ·rw [List.getElem?_eq_none (by simp; omega),List.getElem?_eq_none (by simp; omega)]
theorem region_sound{ro:Option Nat}(hG:GamB P B G){ks ow:List Nat}{n id:Nat}{ops:Array Oper}{Q:Exit→Act→World→Prop}{env fr env' fr':List (Nat×AV)}{h':Heap}(hst:StOK ks n B C env fr h a w)
  (hrun:run G false (compReg P B.gv ks n ow ops) (.ok env fr h)=.ok env' fr' h')
  (hQ:∀ D a' w',C.Le D→StOK ks n B D env' fr' h' a' w'→a'.defers=a.defers→Keep B w w'→Q .normal a' w'):(Code.region id ops false).wpIn (fR ro) 0 P Q a w:=
 wpIn_region (list_sound hG (List.range ops.size) ops.toList env fr h C a w (range_get ops) hst rfl (.refl C) (Keep.refl _ _) hrun hQ)
end
end Go.Proofs.YtpefhfiehfkocaaGreatDoor
namespace Go.Proofs.YtpefhfiehfkocaaGreatDoor
open Go.RowKit
def MI.reads(m:MI):List Nat:=m.args.filterMap (fun | .t n=>some n | .c _=>none)++(match m.g with | some (t,_)=>[t] | none=>[])
def MI.apart(x y:MI):Bool:=
 (match x.dst with | some d=>!y.reads.contains d&&y.dst != some d | none=>true)&&(match y.dst with | some d=>!x.reads.contains d | none=>true)
def directs(o:Oper):List Nat:=o.after.toList.filterMap fun e=>if Region.binds .any e then some e.on else none
def ancs:List Oper→List (List Nat)→List (List Nat)
 | [],acc=>acc
 | o::os,acc=>ancs os (acc++[(directs o++(directs o).flatMap fun i=>acc.getD i []).eraseDups])
def AO.blind:AO→Bool
 | .mv | .pick | .bin _ | .un _ | .conv _ | .ext _=>true
 | _=>false
def drawOKE(E:List Nat)(F:List (Nat×Nat))(ops:List Oper)(mis:List MI):Bool:=
 let as:=ancs ops []
 let N:=ops.length
 (List.range N).all fun k=>(((ops[k]?).map directs).getD []).all (fun i=>decide (i<k)) &&
  (List.range N).all fun i=>!decide (i<k)||((as.getD k []).contains i||((mis.getD i botMI).apart (mis.getD k botMI)&&(!(mis.getD i botMI).o.loud&&!(mis.getD k botMI).o.loud||(mis.getD i botMI).o.blind||(mis.getD k botMI).o.blind ||
   (E.contains k&&!(mis.getD k botMI).o.loud&&(List.range i).all fun j=>!(mis.getD j botMI).o.loud)||(!(mis.getD i botMI).o.loud&&F.contains (i,k+1)))))
def drawOK(ops:List Oper)(mis:List MI):Bool:=drawOKE [] [] ops mis
def lates(ops:List Oper)(mis:List MI):List (Nat×Nat):=
 let as:=ancs ops []
 (List.range ops.length).flatMap fun i=>if !(mis.getD i botMI).o.loud&&!(mis.getD i botMI).o.blind then
  ((List.range ops.length).filter fun k=>decide (i<k)&&(mis.getD k botMI).o.loud&&!(as.getD k []).contains i).map fun k=>(i,k+1)else []
def earlies(ops:List Oper)(mis:List MI):List Nat:=
 let as:=ancs ops []
 (List.range ops.length).filter fun k=>!(mis.getD k botMI).o.loud&&!(mis.getD k botMI).o.blind&&(List.range k).any fun i=>(mis.getD i botMI).o.loud&&!(as.getD k []).contains i
section
variable {P:Program} {B:Base} {C D:Cx} {h:Heap} {w w':World} {G:Gam} {a:Act}
def Shut(ops:List Oper)(L:Nat→Bool):Prop:=∀ j o,ops[j]?=some o→L j=true→∀ i∈directs o,L i=true
theorem ancs_spec{all:List Oper}{L:Nat→Bool}(hL:Shut all L):∀ (os:List Oper) (acc:List (List Nat)) (pre:List Oper),all=pre++os→acc.length=pre.length→
  (∀ (j:Nat) o,all[j]?=some o→j<acc.length→(∀ i∈directs o,L i=true)→∀ i∈acc.getD j [],L i=true)→
  ∀ (j:Nat) o,all[j]?=some o→(∀ i∈directs o,L i=true)→∀ i∈(ancs os acc).getD j [],L i=true
 | [],acc,pre,he,hl,hacc,j,o,ho,hd,i,hi=>by
  have:j<acc.length:=by
   have:=(List.getElem?_eq_some_iff.1 ho).1;simp [he]at this; omega
  exact hacc j o ho this hd i hi
 | o1::os,acc,pre,he,hl,hacc,j,o,ho,hd,i,hi=>by
  refine ancs_spec hL os _ (pre++[o1]) (by simp [he]) (by simp [hl]) (fun j o ho hj hd i hi=>?_) j o ho hd i hi
  by_cases hj2:j<acc.length
  ·rw [List.getD_eq_getElem?_getD,List.getElem?_append_left hj2,← List.getD_eq_getElem?_getD]at hi
   exact hacc j o ho hj2 hd i hi
  ·have hj3:j=acc.length:=by simp at hj; omega
   subst hj3;have:o=o1:=by
    rw [he,hl,List.getElem?_append_right (Nat.le_refl _)]at ho;simpa using ho.symm
   subst this;rw [List.getD_eq_getElem?_getD,List.getElem?_append_right (Nat.le_refl _)]at hi;simp only [Nat.sub_self,List.getElem?_cons_zero,Option.getD_some,List.mem_eraseDups,List.mem_append,List.mem_flatMap]at hi;rcases hi with hi | ⟨m,hm,hi⟩
   ·exact hd i hi
   ·have hml:L m=true:=hd m hm
    by_cases hma:m<acc.length
    ·have hmall:m<all.length:=by rw [he]; simp; omega
     exact hacc m all[m] (by simp [hmall]) hma (hL m all[m] (by simp [hmall]) hml) i hi
    ·rw [List.getD_eq_getElem?_getD,List.getElem?_eq_none (by omega)]at hi; simp at hi
structure Trace (G:Gam) (mis:List MI) (es:Nat→Nat→Option AV) (hs:Nat→Heap) (vs:Nat→AV):Prop where
 step:∀ (k:Nat) m,mis[k]?=some m→stepV G true m (es k) (hs k)=some (vs k,hs (k+1))
 put:∀ (k:Nat) m,mis[k]?=some m→∀ t x,es (k+1) t=some x→(m.dst=some t∧x=vs k)∨(m.dst≠some t∧es k t=some x)
theorem trace_of{ks ow:List Nat}{n:Nat}{ops:Array Oper}{env' fr':List (Nat×AV)}{h':Heap}:∀ (os:List Oper) (env fr:List (Nat×AV)) (h:Heap),Sep ks env→
  run G true (os.map (compMI P B.gv ks n ow ops)) (.ok env fr h)=.ok env' fr' h'→
  ∃ es hs vs,Trace G (os.map (compMI P B.gv ks n ow ops)) es hs vs∧es 0=getT env fr∧hs 0=h∧es os.length=getT env' fr'∧hs os.length=h'∧(Sep ks env'∧(Keys ks fr→Keys ks fr'))∧
   (∀ (k:Nat) o,os[k]?=some o→compMI P B.gv ks n ow ops o≠botMI)
 | [],env,fr,h,hsep,hrun=>by
  simp only [List.map_nil,run,R.ok.injEq]at hrun; obtain ⟨rfl,rfl,rfl⟩:=hrun;exact ⟨fun _=>getT env fr,fun _=>h,fun _=>.junk,⟨fun k m hm=>by simp at hm,fun k m hm=>by simp at hm⟩,rfl,rfl,rfl,rfl,⟨hsep,id⟩,fun k o hk=>by simp at hk⟩
 | o::os,env,fr,h,hsep,hrun=>by
  simp only [List.map_cons,run,evalI]at hrun;cases hs:stepV G true (compMI P B.gv ks n ow ops o) (getT env fr) h with
  | none=>rw [hs]at hrun; simp only [bindR,run_bad]at hrun; cases hrun
  | some vh=>
   obtain ⟨v,h1⟩:=vh;rw [hs]at hrun;have hne:compMI P B.gv ks n ow ops o≠botMI:=fun e1=>by rw [e1,bot_none]at hs; cases hs
   obtain ⟨c1,c2,c3⟩:=compMI_dst hne;generalize hb:bindR (compMI P B.gv ks n ow ops o).dst (compMI P B.gv ks n ow ops o).kept env fr (some (v,h1))=r1 at hrun;cases r1 with
   | bad=>rw [run_bad]at hrun; cases hrun
   | ok env1 fr1 h2=>
    obtain ⟨rfl,hsep1,hk1,hget⟩:=bind_get hsep (by rw [c2,c1]) hb;obtain ⟨es,hs',vs,ht,e1,e2,e3,e4,e5,e6⟩:=trace_of os env1 fr1 h2 hsep1 hrun;refine ⟨fun k=>match k with | 0=>getT env fr | k+1=>es k,fun k=>match k with | 0=>h | k+1=>hs' k,fun k=>match k with | 0=>v | k+1=>vs k,⟨fun k m hm=>?_,fun k m hm t x hx=>?_⟩,rfl,rfl,e3,e4,⟨e5.1,fun hk=>e5.2 (hk1 hk)⟩,fun k o' hk=>?_⟩
    ·cases k with
     | zero=>simp at hm; subst hm; show _=some (v,hs' 0); rw [e2]; exact hs
     | succ k=>exact ht.step k m (by simpa using hm)
    ·cases k with
     | zero=>simp at hm; subst hm; have hx':es 0 t=some x:=hx; rw [e1]at hx'; exact hget t x hx'
     | succ k=>exact ht.put k m (by simpa using hm) t x hx
    ·cases k with
     | zero=>simp at hk; subst hk; exact hne
     | succ k=>exact e6 k o' (by simpa using hk)
def MI.dstAt(mis:List MI)(k:Nat):Option Nat:=(mis[k]?).bind (·.dst)
def MI.loudAt(mis:List MI)(k:Nat):Bool:=(mis.getD k botMI).o.loud
def Eat(mis:List MI)(e0:Nat→Option AV)(vs:Nat→AV)(L:Nat→Bool):Nat→Nat→Option AV
 | 0,t=>e0 t
 | k+1,t=>if L k=true∧MI.dstAt mis k=some t then some (vs k)else Eat mis e0 vs L k t
def Hat(mis:List MI)(hs:Nat→Heap)(L:Nat→Bool):Nat→Heap
 | 0=>hs 0
 | k+1=>if L k=true∧MI.loudAt mis k=true then hs (k+1)else Hat mis hs L k
theorem Eat_of_trace{mis:List MI}{es:Nat→Nat→Option AV}{hs:Nat→Heap}{vs:Nat→AV}(ht:Trace G mis es hs vs){t:Nat}:∀ (k:Nat) x,k≤mis.length→es k t=some x→Eat mis (es 0) vs (fun _=>true) k t=some x
 | 0,x,_,h=>h
 | k+1,x,hk,h=>by
  have hm:mis[k]?=some mis[k]:=by simp
  simp only [Eat];rcases ht.put k _ hm t x h with ⟨h1,rfl⟩ | ⟨h1,h2⟩
  ·rw [if_pos ⟨trivial,by simp only [MI.dstAt,hm,Option.bind_some]; exact h1⟩]
  ·rw [if_neg (fun e=>h1 (by simpa only [MI.dstAt,hm,Option.bind_some] using e.2))]
   exact Eat_of_trace ht k x (by omega) h2
theorem Eat_all{mis:List MI}{e0:Nat→Option AV}{vs:Nat→AV}{L:Nat→Bool}{t:Nat}:∀ (k:Nat),(∀ i,i<k→MI.dstAt mis i=some t→L i=true)→Eat mis e0 vs L k t=Eat mis e0 vs (fun _=>true) k t
 | 0,_=>rfl
 | k+1,h=>by
  simp only [Eat,true_and];by_cases hd:MI.dstAt mis k=some t
  ·rw [if_pos ⟨h k (by omega) hd,hd⟩,if_pos hd]
  ·rw [if_neg (fun e=>hd e.2),if_neg hd]; exact Eat_all k (fun i hi=>h i (by omega))
theorem Eat_up{mis:List MI}{e0:Nat→Option AV}{vs:Nat→AV}{L:Nat→Bool}{t k:Nat}:∀ (d:Nat),(∀ i,k≤i→i<k+d→MI.dstAt mis i=some t→L i=false)→Eat mis e0 vs L (k+d) t=Eat mis e0 vs L k t
 | 0,_=>rfl
 | d+1,h=>by
  rw [show k+(d+1)=(k+d)+1 by omega];simp only [Eat];rw [if_neg (fun e=>by have:=h (k+d) (by omega) (by omega) e.2; rw [e.1]at this; cases this)];exact Eat_up d (fun i h1 h2=>h i h1 (by omega))
theorem Eat_congr{mis:List MI}{e0:Nat→Option AV}{vs:Nat→AV}{L L':Nat→Bool}{t:Nat}:∀ (k:Nat),(∀ i,i<k→MI.dstAt mis i=some t→L' i=L i)→Eat mis e0 vs L' k t=Eat mis e0 vs L k t
 | 0,_=>rfl
 | k+1,h=>by
  simp only [Eat];by_cases hd:MI.dstAt mis k=some t
  ·rw [h k (by omega) hd,Eat_congr k (fun i hi=>h i (by omega))]
  ·rw [if_neg (fun e=>hd e.2),if_neg (fun e=>hd e.2)]; exact Eat_congr k (fun i hi=>h i (by omega))
theorem Hat_all{mis:List MI}{hs:Nat→Heap}{L:Nat→Bool}:∀ (k:Nat),(∀ i,i<k→MI.loudAt mis i=true→L i=true)→(∀ i,i<k→MI.loudAt mis i=false→hs (i+1)=hs i)→Hat mis hs L k=hs k
 | 0,_,_=>rfl
 | k+1,h,hq=>by
  simp only [Hat];by_cases hd:MI.loudAt mis k=true
  ·rw [if_pos ⟨h k (by omega) hd,hd⟩]
  ·rw [if_neg (fun e=>hd e.2),Hat_all k (fun i hi=>h i (by omega)) (fun i hi=>hq i (by omega)),hq k (by omega) (by simpa using hd)]
theorem Hat_up{mis:List MI}{hs:Nat→Heap}{L:Nat→Bool}{k:Nat}:∀ (d:Nat),(∀ i,k≤i→i<k+d→MI.loudAt mis i=true→L i=false)→Hat mis hs L (k+d)=Hat mis hs L k
 | 0,_=>rfl
 | d+1,h=>by
  rw [show k+(d+1)=(k+d)+1 by omega];simp only [Hat];rw [if_neg (fun e=>by have:=h (k+d) (by omega) (by omega) e.2; rw [e.1]at this; cases this)];exact Hat_up d (fun i h1 h2=>h i h1 (by omega))
theorem getA_mono{e e':Nat→Option AV}{x:At}(h:∀ t,x=.t t→∀ v,e t=some v→e' t=some v){v:AV}(hv:getA e x=some v):getA e' x=some v:=by
 cases x with
 | t n=>exact h n rfl v hv
 | c v=>exact hv
theorem getAs_mono{e e':Nat→Option AV}:∀ {xs:List At} {vs:List AV},(∀ t,At.t t∈xs→∀ v,e t=some v→e' t=some v)→getAs e xs=some vs→getAs e' xs=some vs
 | [],vs,_,h=>h
 | x::xs,vs,hm,h=>by
  simp only [getAs]at h ⊢;split at h
  ·rename_i v vs' h1 h2
   rw [getA_mono (fun t ht=>hm t (by simp [ht])) h1,getAs_mono (fun t ht=>hm t (by simp [ht])) h2];exact h
  ·cases h
theorem stepV_mono{s:Bool}{m:MI}{e e':Nat→Option AV}{r:AV×Heap}(hm:∀ t∈m.reads,∀ v,e t=some v→e' t=some v)(h1:stepV G s m e h=some r):stepV G s m e' h=some r:=by
 have hargs:∀ vs,getAs e m.args=some vs→getAs e' m.args=some vs:=fun vs=>getAs_mono fun t ht=>hm t (by simp only [MI.reads,List.mem_append,List.mem_filterMap]; exact .inl ⟨_,ht,rfl⟩)
 have go:∀ {r},(match getAs e m.args with
   | some vs=>if s&&!m.o.loud then (evalStill G h m.o vs).map fun v=>(v,h)else evalAll G h m.o vs
   | none=>none)=some r→(match getAs e' m.args with
   | some vs=>if s&&!m.o.loud then (evalStill G h m.o vs).map fun v=>(v,h)else evalAll G h m.o vs
   | none=>none)=some r:=fun {r} hr=>by
  split at hr
  ·rename_i vs hvs; rw [hargs vs hvs]; exact hr
  ·cases hr
 unfold stepV at h1 ⊢
 cases hg:m.g with
 | none=>rw [hg]at h1; exact go h1
 | some tw=>
  obtain ⟨t,want⟩:=tw;rw [hg]at h1;have ht:t∈m.reads:=by simp [MI.reads,hg]
  simp only at h1 ⊢;split at h1
  ·rename_i b hb
   rw [hm t ht _ hb];simp only;split at h1
   ·rename_i hbw; rw [if_pos hbw]; exact go h1
   ·rename_i hbw; rw [if_neg hbw]; exact h1
  ·rename_i hb; rw [hm t ht _ hb]; exact h1
  ·cases h1
theorem still_heap{m:MI}{e:Nat→Option AV}{v:AV}{h':Heap}(hq:m.o.loud=false)(h1:stepV G true m e h=some (v,h')):h'=h:=by
 have go:∀ {r:AV×Heap},(match getAs e m.args with
   | some vs=>if true&&!m.o.loud then (evalStill G h m.o vs).map fun v=>(v,h)else evalAll G h m.o vs
   | none=>none)=some r→r.2=h:=fun {r} hr=>by
  split at hr
  ·simp only [hq,Bool.not_false,Bool.and_self,if_true,Option.map_eq_some_iff]at hr
   obtain ⟨_,_,rfl⟩:=hr; rfl
  ·cases hr
 unfold stepV at h1
 simp only at h1
 split at h1
 ·exact go h1
 ·split at h1
  ·split at h1
   ·exact go h1
   ·injection h1 with h1; injection h1 with _ h1; exact h1.symm
  ·injection h1 with h1; injection h1 with _ h1; exact h1.symm
  ·cases h1
theorem blind_quiet{o:AO}(hb:o.blind=true):o.quiet=true:=by cases o <;> first | rfl | cases hb
theorem blind_low{o:AO}(hb:o.blind=true):o.loud=false:=by cases o <;> first | rfl | cases hb
theorem blind_pure{o:AO}(hb:o.blind=true)(h h':Heap)(vs:List AV):evalPure h o vs=evalPure h' o vs:=by
 cases o <;> first | exact absurd hb Bool.false_ne_true | (rcases vs with _ | ⟨x,_ | ⟨y,_ | ⟨z,_ | ⟨u,r⟩⟩⟩⟩ <;> first | rfl | (cases x <;> rfl))
theorem blind_step{m:MI}{e:Nat→Option AV}{h h1:Heap}{v:AV}(hb:m.o.blind=true)(hs:stepV G true m e h=some (v,h1))(h2:Heap):stepV G true m e h2=some (v,h2):=by
 have hl:=blind_low hb
 have hq:=blind_quiet hb
 have hst:∀ vs,evalStill G h m.o vs=evalStill G h2 m.o vs:=fun vs=>by
  unfold evalStill; rw [if_pos hq,if_pos hq]; exact blind_pure hb _ _ vs
 have go:(match getAs e m.args with
   | some vs=>if true&&!m.o.loud then (evalStill G h m.o vs).map fun v=>(v,h)else evalAll G h m.o vs
   | none=>none)=some (v,h1)→(match getAs e m.args with
   | some vs=>if true&&!m.o.loud then (evalStill G h2 m.o vs).map fun v=>(v,h2)else evalAll G h2 m.o vs
   | none=>none)=some (v,h2):=fun hr=>by
  split at hr
  ·rename_i vs hvs
   simp only [hl,Bool.not_false,Bool.and_self,if_true,Option.map_eq_some_iff]at hr ⊢;obtain ⟨x,hx,hy⟩:=hr;injection hy with hy _
   exact ⟨x,by rw [← hst]; exact hx,by rw [hy]⟩
  ·cases hr
 unfold stepV at hs ⊢
 simp only at hs ⊢
 split at hs
 ·exact go hs
 ·split at hs
  ·split at hs
   ·rename_i hbw; rw [if_pos hbw]; exact go hs
   ·rename_i hbw; rw [if_neg hbw]; injection hs with hs; injection hs with hs _; rw [hs]
  ·injection hs with hs; injection hs with hs _; rw [hs]
  ·cases hs
theorem Hat_congr{mis:List MI}{hs:Nat→Heap}{L L':Nat→Bool}:∀ (k:Nat),(∀ i,i<k→MI.loudAt mis i=true→L' i=L i)→Hat mis hs L' k=Hat mis hs L k
 | 0,_=>rfl
 | k+1,h=>by
  simp only [Hat];by_cases hd:MI.loudAt mis k=true
  ·rw [h k (by omega) hd,Hat_congr k (fun i hi=>h i (by omega))]
  ·rw [if_neg (fun e=>hd e.2),if_neg (fun e=>hd e.2)]; exact Hat_congr k (fun i hi=>h i (by omega))
def undone(N:Nat)(L:Nat→Bool):Nat:=((List.range N).filter fun i=>!L i).length
theorem filter_less{α:Type}{p q:α→Bool}(hpq:∀ x,q x=true→p x=true):∀ {l:List α} {k:α},k∈l→p k=true→q k=false→(l.filter q).length<(l.filter p).length
 | [],k,hk,_,_=>by simp at hk
 | x::l,k,hk,h1,h2=>by
  have hle:∀ l:List α,(l.filter q).length≤(l.filter p).length:=fun l=>by
   induction l with
   | nil=>simp
   | cons y l ih=>
    simp only [List.filter_cons];cases hq:q y with
    | true=>rw [hpq y hq]; simpa using ih
    | false=>
     cases hp:p y with
     | true=>simp; omega
     | false=>simpa using ih
  rcases List.mem_cons.1 hk with rfl | hk
  ·simp only [List.filter_cons,h1,h2,if_true,Bool.false_eq_true,if_false,List.length_cons]
   have:=hle l; omega
  ·have ih:=filter_less hpq hk h1 h2
   simp only [List.filter_cons];cases hq:q x with
   | true=>rw [hpq x hq]; simpa using ih
   | false=>
    cases hp:p x with
    | true=>simp; omega
    | false=>simpa using ih
theorem Hat_none{mis:List MI}{hs:Nat→Heap}{L:Nat→Bool}:∀ (k:Nat),(∀ i,i<k→MI.loudAt mis i=true→L i=false)→Hat mis hs L k=hs 0
 | 0,_=>rfl
 | k+1,h=>by
  simp only [Hat];rw [if_neg (fun e=>by rw [h k (by omega) e.2]at e; cases e.1)];exact Hat_none k fun i hi=>h i (by omega)
theorem any_sound{ro:Option Nat}{E:List Nat}{F:List (Nat×Nat)}(hG:GamB P B G){ks ow:List Nat}{n:Nat}{ops:Array Oper}{Q:Exit→Act→World→Prop}{d:List Deferred}{w0:World}{C0:Cx}{es:Nat→Nat→Option AV}{hs:Nat→Heap}{vs:Nat→AV}
  (hok:drawOKE E F ops.toList (compReg P B.gv ks n ow ops)=true) (hE:∀ k∈E,∀ m,(compReg P B.gv ks n ow ops)[k]?=some m→stepV G true m (es k) (hs 0)=some (vs k,hs 0))
  (hF:∀ k p,F.contains (k,p)=true→k<p→p≤ops.size→∀ m,(compReg P B.gv ks n ow ops)[k]?=some m→stepV G true m (es k) (hs p)=some (vs k,hs p)) (ht:Trace G (compReg P B.gv ks n ow ops) es hs vs) (hnb:∀ (k:Nat) o,ops.toList[k]?=some o→compMI P B.gv ks n ow ops o≠botMI)
  (hQ:∀ D a' w',C0.Le D→Inv B D (hs ops.size) w'→RelT D (es ops.size) a'→n≤a'.tmps.size→a'.defers=d→Keep B w0 w'→Q .normal a' w') :
  ∀ (fuel:Nat) (listed:Array Bool) (C:Cx) (a:Act) (w:World),listed.size=ops.size→Shut ops.toList (fun i=>listed.getD i false)→undone ops.size (fun i=>listed.getD i false)≤fuel→C0.Le C→Keep B w0 w→
   Inv B C (Hat (compReg P B.gv ks n ow ops) hs (fun i=>listed.getD i false) ops.size) w→RelT C (Eat (compReg P B.gv ks n ow ops) (es 0) vs (fun i=>listed.getD i false) ops.size) a→n≤a.tmps.size→a.defers=d→
   wpAnyIn (fR ro) 0 P .any ops Q fuel listed a w:=by
 have hmlen:(compReg P B.gv ks n ow ops).length=ops.size:=by simp [compReg]
 have hmget:∀ (k:Nat) o,ops[k]?=some o→(compReg P B.gv ks n ow ops)[k]?=some (compMI P B.gv ks n ow ops o):=fun k o ho=>by simp [compReg,ho]
 have hmgetD:∀ (k:Nat) o,ops[k]?=some o→(compReg P B.gv ks n ow ops).getD k botMI=compMI P B.gv ks n ow ops o:=fun k o ho=>by rw [List.getD_eq_getElem?_getD,hmget k o ho]; rfl
 have chk:∀ k,k<ops.size→(∀ o,ops[k]?=some o→∀ i∈directs o,i<k)∧∀ i,i<k→((ancs ops.toList []).getD k []).contains i=true ∨
   (((compReg P B.gv ks n ow ops).getD i botMI).apart ((compReg P B.gv ks n ow ops).getD k botMI)=true∧((((compReg P B.gv ks n ow ops).getD i botMI).o.loud=false∧((compReg P B.gv ks n ow ops).getD k botMI).o.loud=false)∨((compReg P B.gv ks n ow ops).getD i botMI).o.blind=true∨((compReg P B.gv ks n ow ops).getD k botMI).o.blind=true∨(E.contains k=true∧((compReg P B.gv ks n ow ops).getD k botMI).o.loud=false∧∀ j,j<i→((compReg P B.gv ks n ow ops).getD j botMI).o.loud=false)∨(((compReg P B.gv ks n ow ops).getD i botMI).o.loud=false∧F.contains (i,k+1)=true))):=by
  intro k hk;unfold drawOKE at hok;have h1:=List.all_eq_true.1 hok k (List.mem_range.2 (by simpa using hk));simp only [Bool.and_eq_true]at h1;refine ⟨fun o ho i hi=>?_,fun i hi=>?_⟩
  ·have h2:=h1.1
   rw [show ops.toList[k]?=some o by simpa using ho]at h2;have:=List.all_eq_true.1 h2 i hi;simpa using this
  ·have h2:=List.all_eq_true.1 h1.2 i (List.mem_range.2 (by simp; omega))
   simp only [Bool.or_eq_true,Bool.not_eq_true',decide_eq_false_iff_not,Bool.and_eq_true]at h2;rcases h2 with h2 | h2 | h2
   ·omega
   ·exact .inl h2
   ·refine .inr ⟨h2.1,?_⟩
    rcases h2.2 with (((h3 | h3) | h3) | h3) | h3
    ·exact .inl h3
    ·exact .inr (.inl h3)
    ·exact .inr (.inr (.inl h3))
    ·refine .inr (.inr (.inr (.inl ⟨h3.1.1,h3.1.2,fun j hj=>?_⟩)))
     have:=List.all_eq_true.1 h3.2 j (List.mem_range.2 hj);simpa using this
    ·exact .inr (.inr (.inr (.inr h3)))
 have waits:∀ (L:Nat→Bool),Shut ops.toList L→∀ k o,ops[k]?=some o→(∀ i∈directs o,L i=true)→∀ i,((ancs ops.toList []).getD k []).contains i=true→L i=true:=fun L hL k o ho hd i hi=>
  ancs_spec hL ops.toList [] [] rfl rfl (fun j o _ hj=>by simp at hj) k o (by simpa using ho) hd i (by simpa using hi)
 have quiet:∀ i,i<ops.size→MI.loudAt (compReg P B.gv ks n ow ops) i=false→hs (i+1)=hs i:=fun i hi hq=>by
  have ho:ops[i]?=some ops[i]:=by simp [hi]
  have hs1:=ht.step i _ (hmget i _ ho);refine still_heap ?_ hs1
  unfold MI.loudAt at hq; rw [hmgetD i _ ho]at hq; exact hq
 intro fuel
 induction fuel with
 | zero=>
  intro listed C a w hsize hshut hcnt hle hbw hinv hrel htm hdf;have hall:∀ i,i<ops.size→listed.getD i false=true:=fun i hi=>by
   cases hb:listed.getD i false with
   | true=>rfl
   | false=>
    have:i∈(List.range ops.size).filter fun i=>!listed.getD i false:=List.mem_filter.2 ⟨List.mem_range.2 hi,by rw [hb]; rfl⟩
    have:=List.length_pos_of_mem this;unfold undone at hcnt; dsimp only at hcnt; omega
  refine ⟨?_,?_⟩
  ·cases hr:Region.ready .any ops listed with
   | nil=>rfl
   | cons i r=>
    have hm:i∈Region.ready .any ops listed:=by rw [hr]; simp
    obtain ⟨h1,oi,h2,_⟩:=mem_ready.1 hm;have hi:i<ops.size:=(Array.getElem?_eq_some_iff.1 h2).1;have h3:=hall i hi;have hi':i<listed.size:=by omega
    simp [hi']at h1 h3; rw [h1]at h3; cases h3
  ·refine hQ C a w hle ?_ (fun t x hx=>hrel t x ?_) htm hdf hbw
   ·rw [← Hat_all ops.size (fun i hi _=>hall i hi) (fun i hi=>quiet i hi)]; exact hinv
   ·rw [Eat_all ops.size (fun i hi _=>hall i hi)]
    exact Eat_of_trace ht ops.size x (by omega) hx
 | succ fuel ih=>
  intro listed C a w hsize hshut hcnt hle hbw hinv hrel htm hdf;refine ⟨fun hr=>?_,fun k hk=>?_⟩
  ·
   have hall:∀ i,i<ops.size→listed.getD i false=true:=by
    intro i;induction i using Nat.strongRecOn with
    | _ i ihi=>
     intro hi;cases hb:listed.getD i false with
     | true=>rfl
     | false=>
      have ho:ops[i]?=some ops[i]:=by simp [hi]
      have:i∈Region.ready .any ops listed:=mem_ready.2 ⟨by
       have hi':i<listed.size:=by omega
       simp [hi']at hb ⊢; exact hb,ops[i],ho,fun e he hb=>by
       have hlt:=(chk i hi).1 _ ho e.on (List.mem_filterMap.2 ⟨e,by simpa using he,by rw [if_pos hb]⟩);exact ihi e.on hlt (by omega)⟩
      rw [hr]at this; cases this
   refine hQ C a w hle ?_ (fun t x hx=>hrel t x ?_) htm hdf hbw
   ·rw [← Hat_all ops.size (fun i hi _=>hall i hi) (fun i hi=>quiet i hi)]; exact hinv
   ·rw [Eat_all ops.size (fun i hi _=>hall i hi)]
    exact Eat_of_trace ht ops.size x (by omega) hx
  ·obtain ⟨hun,o,ho,hwait⟩:=mem_ready.1 hk
   have hkN:k<ops.size:=(Array.getElem?_eq_some_iff.1 ho).1;have hkl:k<listed.size:=by omega
   have hun':listed.getD k false=false:=by simp [hkl]at hun ⊢; exact hun
   have hdir:∀ i∈directs o,listed.getD i false=true:=fun i hi=>by
    obtain ⟨e,he,h1⟩:=List.mem_filterMap.1 hi;split at h1
    ·rename_i hb; injection h1 with h1; subst h1; exact hwait e (by simpa using he) hb
    ·cases h1
   have hanc:=waits _ hshut k o ho hdir;have hm:=hmget k o ho;have hmD:=hmgetD k o ho;have later:∀ j,k<j→j<ops.size→((ancs ops.toList []).getD j []).contains k=true→listed.getD j false=false:=fun j h1 h2 h3=>by
    cases hb:listed.getD j false with
    | false=>rfl
    | true=>
     have hoj:ops[j]?=some ops[j]:=by simp [h2]
     have:=waits _ hshut j _ hoj (hshut j ops[j] (by simp) hb) k h3;rw [hun']at this; cases this
   have apart2:∀ i j,i<j→j<ops.size→((((compReg P B.gv ks n ow ops).getD i botMI).o.loud=false∧((compReg P B.gv ks n ow ops).getD j botMI).o.loud=false)∨((compReg P B.gv ks n ow ops).getD i botMI).o.blind=true∨((compReg P B.gv ks n ow ops).getD j botMI).o.blind=true∨(E.contains j=true∧((compReg P B.gv ks n ow ops).getD j botMI).o.loud=false∧∀ j',j'<i→((compReg P B.gv ks n ow ops).getD j' botMI).o.loud=false)∨(((compReg P B.gv ks n ow ops).getD i botMI).o.loud=false∧F.contains (i,j+1)=true))→
     (((compReg P B.gv ks n ow ops).getD i botMI).o.loud=true→((compReg P B.gv ks n ow ops).getD j botMI).o.blind=true∨(E.contains j=true∧((compReg P B.gv ks n ow ops).getD j botMI).o.loud=false∧∀ j',j'<i→((compReg P B.gv ks n ow ops).getD j' botMI).o.loud=false))∧(((compReg P B.gv ks n ow ops).getD j botMI).o.loud=true→((compReg P B.gv ks n ow ops).getD i botMI).o.blind=true∨(((compReg P B.gv ks n ow ops).getD i botMI).o.loud=false∧F.contains (i,j+1)=true)):=fun i j _ _ h=>by
    rcases h with ⟨h1,h2⟩ | h | h | h | h
    ·exact ⟨fun e=>(by rw [h1]at e; cases e),fun e=>(by rw [h2]at e; cases e)⟩
    ·exact ⟨fun e=>(by rw [blind_low h]at e; cases e),fun _=>.inl h⟩
    ·exact ⟨fun _=>.inl h,fun e=>(by rw [blind_low h]at e; cases e)⟩
    ·exact ⟨fun _=>.inr h,fun e=>(by rw [h.2.1]at e; cases e)⟩
    ·exact ⟨fun e=>(by rw [h.1]at e; cases e),fun _=>.inr h⟩
   have hHk:(compMI P B.gv ks n ow ops o).o.blind=false→(∀ i,k<i→i<ops.size→MI.loudAt (compReg P B.gv ks n ow ops) i=true→listed.getD i false=false)→Hat (compReg P B.gv ks n ow ops) hs (fun i=>listed.getD i false) ops.size=Hat (compReg P B.gv ks n ow ops) hs (fun i=>listed.getD i false) k:=fun hnbl hno=>by
    have:=Hat_up (mis:=compReg P B.gv ks n ow ops) (hs:=hs) (L:=fun i=>listed.getD i false) (k:=k) (ops.size-k) (fun i h1 h2 h3=>by
     by_cases hik:i=k
     ·subst hik; exact hun'
     ·exact hno i (by omega) (by omega) h3)
    rw [show k+(ops.size-k)=ops.size by omega]at this;exact this
   have loud2:∀ i j,i<j→j<ops.size→MI.loudAt (compReg P B.gv ks n ow ops) i=true→MI.loudAt (compReg P B.gv ks n ow ops) j=true→((ancs ops.toList []).getD j []).contains i=true:=fun i j hij hj hli hlj=>by
    rcases (chk j hj).2 i hij with h4 | ⟨_,h4⟩
    ·exact h4
    ·exfalso
     have hli':((compReg P B.gv ks n ow ops).getD i botMI).o.loud=true:=hli;rcases (apart2 i j hij hj h4).2 hlj with h5 | h5
     ·rw [blind_low h5]at hli'; cases hli'
     ·rw [h5.1]at hli'; cases hli'
   have hnone:(compMI P B.gv ks n ow ops o).o.loud=true→∀ i,k<i→i<ops.size→MI.loudAt (compReg P B.gv ks n ow ops) i=true→listed.getD i false=false:=fun hlk i hki hi hli=>
    later i hki hi (loud2 k i hki hi (by unfold MI.loudAt; rw [hmD]; exact hlk) hli)
   have hH:(compMI P B.gv ks n ow ops o).o.blind=false→Hat (compReg P B.gv ks n ow ops) hs (fun i=>listed.getD i false) ops.size=hs k∨(E.contains k=true∧(compMI P B.gv ks n ow ops o).o.loud=false∧Hat (compReg P B.gv ks n ow ops) hs (fun i=>listed.getD i false) ops.size=hs 0)∨((compMI P B.gv ks n ow ops o).o.loud=false∧∃ p,F.contains (k,p)=true∧k<p∧p≤ops.size∧Hat (compReg P B.gv ks n ow ops) hs (fun i=>listed.getD i false) ops.size=hs p):=fun hnbl=>by
    by_cases hlast:∃ i,k<i∧i<ops.size∧MI.loudAt (compReg P B.gv ks n ow ops) i=true∧listed.getD i false=true
    ·
     right; right
     obtain ⟨j,hkj,hj,hlj,hdj,hmax⟩:∃ j,k<j∧j<ops.size∧MI.loudAt (compReg P B.gv ks n ow ops) j=true∧listed.getD j false=true∧∀ i,j<i→i<ops.size→MI.loudAt (compReg P B.gv ks n ow ops) i=true→listed.getD i false=false:=by
      have go:∀ (m i:Nat),ops.size-i≤m→k<i→i<ops.size→MI.loudAt (compReg P B.gv ks n ow ops) i=true→listed.getD i false=true→
        ∃ j,k<j∧j<ops.size∧MI.loudAt (compReg P B.gv ks n ow ops) j=true∧listed.getD j false=true∧∀ i,j<i→i<ops.size→MI.loudAt (compReg P B.gv ks n ow ops) i=true→listed.getD i false=false:=by
       intro m;induction m with
       | zero=>intro i h1 _ h3; omega
       | succ m ihm=>
        intro i h1 h2 h3 h4 h5;by_cases hmore:∃ i',i<i'∧i'<ops.size∧MI.loudAt (compReg P B.gv ks n ow ops) i'=true∧listed.getD i' false=true
        ·obtain ⟨i',g1,g2,g3,g4⟩:=hmore
         exact ihm i' (by omega) (by omega) g2 g3 g4
        ·refine ⟨i,h2,h3,h4,h5,fun i' g1 g2 g3=>?_⟩
         cases hb:listed.getD i' false with
         | false=>rfl
         | true=>exact absurd ⟨i',g1,g2,g3,hb⟩ hmore
      obtain ⟨i,h2,h3,h4,h5⟩:=hlast;exact go ops.size i (by omega) h2 h3 h4 h5
     have hoj:ops[j]?=some ops[j]:=by simp [hj]
     have hF2:(compMI P B.gv ks n ow ops o).o.loud=false∧F.contains (k,j+1)=true:=by
      rcases (chk j hj).2 k hkj with h4 | ⟨_,h4⟩
      ·have:=waits _ hshut j _ hoj (hshut j ops[j] (by simp) hdj) k h4
       rw [hun']at this; cases this
      ·rcases (apart2 k j hkj hj h4).2 hlj with h5 | h5
       ·rw [hmD,hnbl]at h5; cases h5
       ·rw [hmD]at h5; exact h5
     refine ⟨hF2.1,j+1,hF2.2,by omega,by omega,?_⟩
     have e1:=Hat_up (mis:=compReg P B.gv ks n ow ops) (hs:=hs) (L:=fun i=>listed.getD i false) (k:=j+1) (ops.size-(j+1)) (fun i h1 h2 h3=>hmax i (by omega) (by omega) h3);rw [show j+1+(ops.size-(j+1))=ops.size by omega]at e1;rw [e1];refine Hat_all (j+1) (fun i hi h3=>?_) (fun i hi=>quiet i (by omega))
     by_cases hij:i=j
     ·subst hij; exact hdj
     ·exact waits _ hshut j _ hoj (hshut j ops[j] (by simp) hdj) i (loud2 i j (by omega) hj h3 hlj)
    rw [hHk hnbl (fun i h1 h2 h3=>by
     cases hb:listed.getD i false with
     | false=>rfl
     | true=>exact absurd ⟨i,h1,h2,h3,hb⟩ hlast)]
    by_cases hall:∀ i,i<k→MI.loudAt (compReg P B.gv ks n ow ops) i=true→listed.getD i false=true
    ·exact .inl (Hat_all k hall (fun i hi=>quiet i (by omega)))
    ·right
     have hex:∃ i,i<k∧MI.loudAt (compReg P B.gv ks n ow ops) i=true∧listed.getD i false=false:=by
      refine Classical.byContradiction fun hno=>hall fun i hi hl=>?_
      cases hb:listed.getD i false with
      | true=>rfl
      | false=>exact absurd ⟨i,hi,hl,hb⟩ hno
     obtain ⟨i,hi,hil,hiu⟩:=hex;have hcond:E.contains k=true∧((compReg P B.gv ks n ow ops).getD k botMI).o.loud=false∧∀ j',j'<i→((compReg P B.gv ks n ow ops).getD j' botMI).o.loud=false:=by
      rcases (chk k hkN).2 i hi with h4 | ⟨_,h4⟩
      ·have:=hanc i h4; rw [hiu]at this; cases this
      ·rcases (apart2 i k hi hkN h4).1 hil with h5 | h5
       ·rw [hmD,hnbl]at h5; cases h5
       ·exact h5
     refine .inl ⟨hcond.1,by rw [← hmD]; exact hcond.2.1,Hat_none k fun j hj hjl=>?_⟩
     cases hb:listed.getD j false with
     | false=>rfl
     | true=>
      rcases Nat.lt_trichotomy j i with hji | hji | hji
      ·have:=hcond.2.2 j hji
       have hjl':((compReg P B.gv ks n ow ops).getD j botMI).o.loud=true:=hjl;rw [this]at hjl'; cases hjl'
      ·subst hji; rw [hiu]at hb; cases hb
      ·have hoj:ops[j]?=some ops[j]:=by simp [show j<ops.size by omega]
       have:=waits _ hshut j _ hoj (hshut j ops[j] (by simp) hb) i (loud2 i j hji (by omega) hil hjl);rw [hiu]at this; cases this
   have hread:∀ t∈(compMI P B.gv ks n ow ops o).reads,∀ x,es k t=some x→Eat (compReg P B.gv ks n ow ops) (es 0) vs (fun i=>listed.getD i false) ops.size t=some x:=by
    intro t htr x hx;have e1:=Eat_of_trace ht k x (by omega) hx;rw [← e1];have e2:=Eat_up (mis:=compReg P B.gv ks n ow ops) (e0:=es 0) (vs:=vs) (L:=fun i=>listed.getD i false) (t:=t) (k:=k) (ops.size-k) (fun i h1 h2 h3=>by
     by_cases hik:i=k
     ·subst hik; exact hun'
     ·have hoi:ops[i]?=some ops[i]:=by simp [show i<ops.size by omega]
      rcases (chk i (by omega)).2 k (by omega)with h4 | ⟨h4,_⟩
      ·exact later i (by omega) (by omega) h4
      ·exfalso
       rw [hmD,hmgetD i _ hoi]at h4;have h5:(compMI P B.gv ks n ow ops ops[i]).dst=some t:=by simpa [MI.dstAt,hmget i _ hoi] using h3
       simp only [MI.apart,h5,Bool.and_eq_true]at h4;have h6:=h4.2;simp at h6;exact h6 htr)
    rw [show k+(ops.size-k)=ops.size by omega]at e2;rw [e2];refine Eat_all k (fun i hi h3=>?_)
    have hoi:ops[i]?=some ops[i]:=by simp [show i<ops.size by omega]
    rcases (chk k hkN).2 i hi with h4 | ⟨h4,_⟩
    ·exact hanc i h4
    ·exfalso
     rw [hmD,hmgetD i _ hoi]at h4;have h5:(compMI P B.gv ks n ow ops ops[i]).dst=some t:=by simpa [MI.dstAt,hmget i _ hoi] using h3
     simp only [MI.apart,h5,Bool.and_eq_true]at h4;have h6:=h4.1.1;simp at h6;exact h6 htr
   have hset:∀ i,(listed.setIfInBounds k true).getD i false=if i=k then true else listed.getD i false:=fun i=>by
    by_cases hik:i=k
    ·subst hik; simp [hkl]
    ·simp [hik,Array.getElem?_setIfInBounds_ne (fun e=>hik e.symm)]
   have hL':(fun i=>(listed.setIfInBounds k true).getD i false)=fun i=>if i=k then true else listed.getD i false:=funext hset
   have hstep:stepV G true (compMI P B.gv ks n ow ops o) (Eat (compReg P B.gv ks n ow ops) (es 0) vs (fun i=>listed.getD i false) ops.size) (Hat (compReg P B.gv ks n ow ops) hs (fun i=>listed.getD i false) ops.size)=some (vs k,Hat (compReg P B.gv ks n ow ops) hs (fun i=>(listed.setIfInBounds k true).getD i false) ops.size):=by
    rw [hL'];have h0:=stepV_mono hread (ht.step k _ hm);cases hbl:(compMI P B.gv ks n ow ops o).o.blind with
    | true=>
     have e1:Hat (compReg P B.gv ks n ow ops) hs (fun i=>if i=k then true else listed.getD i false) ops.size=Hat (compReg P B.gv ks n ow ops) hs (fun i=>listed.getD i false) ops.size:=Hat_congr ops.size (fun i _ h3=>by
      show (if i=k then true else listed.getD i false)=listed.getD i false
      by_cases hik:i=k
      ·subst hik
       unfold MI.loudAt at h3;rw [hmD,blind_low hbl]at h3; cases h3
      ·rw [if_neg hik])
     rw [e1];exact blind_step hbl h0 _
    | false=>
     have hlow:(compMI P B.gv ks n ow ops o).o.loud=false→Hat (compReg P B.gv ks n ow ops) hs (fun i=>if i=k then true else listed.getD i false) ops.size=Hat (compReg P B.gv ks n ow ops) hs (fun i=>listed.getD i false) ops.size:=fun hlo=>Hat_congr ops.size (fun i _ h3=>by
      show (if i=k then true else listed.getD i false)=listed.getD i false
      by_cases hik:i=k
      ·subst hik
       unfold MI.loudAt at h3;rw [hmD,hlo]at h3; cases h3
      ·rw [if_neg hik])
     cases hH hbl with
     | inr q=>
      rcases q with ⟨hEk,hlo,hH⟩ | ⟨hlo,p,hp1,hp2,hp3,hH⟩
      ·rw [hlow hlo,hH]
       exact stepV_mono hread (hE k (by simpa using hEk) _ hm)
      ·rw [hlow hlo,hH]
       exact stepV_mono hread (hF k p hp1 hp2 hp3 _ hm)
     | inl hH=>
      cases hlo:(compMI P B.gv ks n ow ops o).o.loud with
      | false=>
       rw [hlow hlo,hH];have hq:=quiet k hkN (by unfold MI.loudAt; rw [hmD]; exact hlo);rw [hq]at h0;exact h0
      | true=>
       rw [hH];have e1:Hat (compReg P B.gv ks n ow ops) hs (fun i=>if i=k then true else listed.getD i false) ops.size=Hat (compReg P B.gv ks n ow ops) hs (fun i=>if i=k then true else listed.getD i false) (k+1):=by
        have:=Hat_up (mis:=compReg P B.gv ks n ow ops) (hs:=hs) (L:=fun i=>if i=k then true else listed.getD i false) (k:=k+1) (ops.size-(k+1)) (fun i h1 h2 h3=>by
         show (if i=k then true else listed.getD i false)=false
         rw [if_neg (by omega)];exact hnone hlo i (by omega) (by omega) h3)
        rw [show k+1+(ops.size-(k+1))=ops.size by omega]at this;exact this
       rw [e1,Hat_all (k+1) (fun i hi h3=>by
        show (if i=k then true else listed.getD i false)=true
        by_cases hik:i=k
        ·rw [if_pos hik]
        ·rw [if_neg hik]
         rcases (chk k hkN).2 i (by omega)with h4 | ⟨_,h4⟩
         ·exact hanc i h4
         ·rcases (apart2 i k (by omega) hkN h4).1 h3 with h5 | h5
          ·rw [hmD,hbl]at h5; cases h5
          ·rw [hmD,hlo]at h5; cases h5.2.1) (fun i hi=>quiet i (by omega))]
       exact h0
   have hnbk:=hnb k o (by simpa using ho);obtain ⟨c1,c2,c3⟩:=compMI_dst hnbk;refine step_sound hG hinv hrel ho hstep (fun u D w' k1 k2 k3 k4=>?_)
   refine ih (listed.setIfInBounds k true) D (a.put o.dst u) w' (by simp [hsize]) (fun j oj hoj hj i hi=>?_) ?_ (hle.trans k1) (hbw.trans k4) ?_ ?_ (by rw [put_size']; exact htm) (by rw [put_defers']; exact hdf)
   ·simp only [hset]at hj ⊢
    by_cases hik:i=k
    ·simp [hik]
    ·rw [if_neg hik]
     by_cases hjk:j=k
     ·subst hjk
      have:oj=o:=by
       have h1:ops[j]?=some oj:=by simpa using hoj
       rw [ho]at h1; injection h1 with h1; exact h1.symm
      subst this; exact hdir i hi
     ·rw [if_neg hjk]at hj; exact hshut j oj hoj hj i hi
   ·have:=filter_less (p:=fun i=>!listed.getD i false) (q:=fun i=>!(listed.setIfInBounds k true).getD i false) (fun i hi=>by
     rw [hset]at hi;split at hi
     ·cases hi
     ·exact hi) (List.mem_range.2 hkN) (by rw [hun']; rfl) (by rw [hset,if_pos rfl]; rfl)
    unfold undone at hcnt ⊢;dsimp only at hcnt ⊢;omega
   ·
    exact k2
   ·
    rw [hL'];refine (hrel.mono k1).put k3 (fun t htd=>Nat.lt_of_lt_of_le (c3 t htd) htm) (fun t x hx=>?_)
    by_cases htd:o.dst=some t
    ·left
     refine ⟨htd,?_⟩
     have e2:=Eat_up (mis:=compReg P B.gv ks n ow ops) (e0:=es 0) (vs:=vs) (L:=fun i=>if i=k then true else listed.getD i false) (t:=t) (k:=k+1) (ops.size-(k+1)) (fun i h1 h2 h3=>by
      show (if i=k then true else listed.getD i false)=false
      rw [if_neg (by omega)];have hoi:ops[i]?=some ops[i]:=by simp [show i<ops.size by omega]
      rcases (chk i (by omega)).2 k (by omega)with h4 | ⟨h4,_⟩
      ·exact later i (by omega) (by omega) h4
      ·exfalso
       rw [hmD,hmgetD i _ hoi]at h4;have h5:(compMI P B.gv ks n ow ops ops[i]).dst=some t:=by simpa [MI.dstAt,hmget i _ hoi] using h3
       have h7:(compMI P B.gv ks n ow ops o).dst=some t:=by rw [c1]; exact htd
       simp [MI.apart,h5,h7]at h4)
     rw [show k+1+(ops.size-(k+1))=ops.size by omega]at e2;rw [e2]at hx;simp only [Eat]at hx;rw [if_pos ⟨by simp,by simp only [MI.dstAt,hm,Option.bind_some]; rw [c1]; exact htd⟩]at hx;injection hx with hx; exact hx.symm
    ·right
     refine ⟨htd,?_⟩
     rw [← hx];refine (Eat_congr ops.size (fun i hi h3=>?_)).symm
     show (if i=k then true else listed.getD i false)=listed.getD i false
     rw [if_neg (fun e=>htd (by subst e; simpa [MI.dstAt,hm,c1] using h3))]
theorem draw_any{ro:Option Nat}(hG:GamB P B G){ks ow:List Nat}{n:Nat}{ops:Array Oper}{Q:Exit→Act→World→Prop}{env fr env' fr':List (Nat×AV)}{h':Heap}(hst:StOK ks n B C env fr h a w)
  (hok:drawOK ops.toList (compReg P B.gv ks n ow ops)=true) (hrun:run G true (compReg P B.gv ks n ow ops) (.ok env fr h)=.ok env' fr' h')
  (hQ:∀ D a' w',C.Le D→StOK ks n B D env' fr' h' a' w'→a'.defers=a.defers→Keep B w w'→Q .normal a' w'):wpAnyIn (fR ro) 0 P .any ops Q ops.size (Array.replicate ops.size false) a { w with drawn:=w.drawn+1 }:=by
 obtain ⟨es,hs,vs,ht,e1,e2,e3,e4,e5,e6⟩:=trace_of ops.toList env fr h hst.sep hrun
 have hb:Below w.heap.size w { w with drawn:=w.drawn+1 }:=below_drew w
 refine (any_sound (E:=[]) (F:=[]) (B:=B) (d:=a.defers) (w0:=w) (C0:=C) hG hok (fun k hk=>by cases hk) (fun k p hk=>by simp at hk) ht e6 (fun D a' w' k1 k2 k3 k4 k5 k6=>hQ D a' w' k1 ⟨?_,?_,e5.1,e5.2 hst.keys,k4⟩ k5 k6) ops.size _ C a _ (by simp) (fun j o _ hj=>?_) ?_ (.refl C) (below_of hst.inv hb) ?_ ?_ hst.size rfl)
 ·rw [← e4]; simpa using k2
 ·rw [← e3]; simpa using k3
 ·simp only [getD_replicate_false]at hj; cases hj
 ·unfold undone; exact Nat.le_trans (List.length_filter_le _ _) (by simp)
 ·have:Hat (compReg P B.gv ks n ow ops) hs (fun i=>(Array.replicate ops.size false).getD i false) ops.size=hs 0:=by
   have:=Hat_up (mis:=compReg P B.gv ks n ow ops) (hs:=hs) (L:=fun i=>(Array.replicate ops.size false).getD i false) (k:=0) ops.size (fun i _ _ _=>getD_replicate_false _ _);simpa [Hat] using this
  rw [this,e2]; exact hst.inv.grow hb
 ·intro t x hx
  have:Eat (compReg P B.gv ks n ow ops) (es 0) vs (fun i=>(Array.replicate ops.size false).getD i false) ops.size t=es 0 t:=by
   have:=Eat_up (mis:=compReg P B.gv ks n ow ops) (e0:=es 0) (vs:=vs) (L:=fun i=>(Array.replicate ops.size false).getD i false) (t:=t) (k:=0) ops.size (fun i _ _ _=>getD_replicate_false _ _);simpa [Eat] using this
  rw [this,e1]at hx;exact hst.rel t x hx
theorem region_sound_draw{ro:Option Nat}(hm:P.follows .mixedOrders=true)(hG:GamB P B G){ks ow:List Nat}{n id:Nat}{ops:Array Oper}{Q:Exit→Act→World→Prop}{env fr env' fr':List (Nat×AV)}{h':Heap}(hst:StOK ks n B C env fr h a w)
  (hok:drawOK ops.toList (compReg P B.gv ks n ow ops)=true) (hrun:run G true (compReg P B.gv ks n ow ops) (.ok env fr h)=.ok env' fr' h')
  (hQ:∀ D a' w',C.Le D→StOK ks n B D env' fr' h' a' w'→a'.defers=a.defers→Keep B w w'→Q .normal a' w'):(Code.region id ops true).wpIn (fR ro) 0 P Q a w:=
 wpIn_region_any hm (draw_any hG hst hok hrun hQ)
end
end Go.Proofs.YtpefhfiehfkocaaGreatDoor
namespace Go.Proofs.YtpefhfiehfkocaaGreatDoor
open Go.RowKit
abbrev ME:=Bool×List Nat×MI
def flagE(E:List Nat)(F:List (Nat×Nat)):Nat→List MI→List ME
 | _,[]=>[]
 | k,m::ms=>(E.contains k,(F.filter fun q=>decide (q.1=k)).map (fun q=>q.2-k-1),m)::flagE E F (k+1) ms
abbrev Pend:=List (Nat×(Heap→Prop))
def pdDue(h:Heap):Pend→Prop
 | []=>True
 | (0,c)::r=>c h∧pdDue h r
 | (_+1,_)::r=>pdDue h r
def pdNext:Pend→Pend
 | []=>[]
 | (0,_)::r=>pdNext r
 | (n+1,c)::r=>(n,c)::pdNext r
def pdNew(G:Gam)(m:MI)(env fr:List (Nat×AV))(v:AV):List Nat→Pend
 | []=>[]
 | d::r=>(d,fun h=>stepV G true m (getT env fr) h=some (v,h))::pdNew G m env fr v r
def runP(G:Gam)(h0:Heap):List ME→(List (Nat×AV)→List (Nat×AV)→Heap→Prop)→Pend→List (Nat×AV)→List (Nat×AV)→Heap→Prop
 | [],Q,pd,env,fr,h=>pdDue h pd∧Q env fr h
 | (e,ls,m)::is,Q,pd,env,fr,h=>pdDue h pd∧match stepV G true m (getT env fr) h with
  | none=>False
  | some (v,h')=>(e=true→stepV G true m (getT env fr) h0=some (v,h0))∧(match m.dst with
   | none=>runP G h0 is Q (pdNew G m env fr v ls++pdNext pd) env fr h'
   | some t=>if m.kept then runP G h0 is Q (pdNew G m env fr v ls++pdNext pd) env (upd t v fr) h' else runP G h0 is Q (pdNew G m env fr v ls++pdNext pd) ((t,v)::env) fr h')
theorem pdDue_mem{h:Heap}:∀ {pd:Pend} {c:Heap→Prop},pdDue h pd→(0,c)∈pd→c h
 | [],_,_,hm=>by cases hm
 | (0,c')::r,c,hd,hm=>by
  rcases List.mem_cons.1 hm with e | hm
  ·injection e with _ e; subst e; exact hd.1
  ·exact pdDue_mem hd.2 hm
 | (n+1,c')::r,c,hd,hm=>by
  rcases List.mem_cons.1 hm with e | hm
  ·injection e with e _; cases e
  ·exact pdDue_mem (pd:=r) hd hm
theorem pdNext_mem:∀ {pd:Pend} {d:Nat} {c:Heap→Prop},(d+1,c)∈pd→(d,c)∈pdNext pd
 | [],_,_,hm=>by cases hm
 | (0,c')::r,d,c,hm=>by
  rcases List.mem_cons.1 hm with e | hm
  ·injection e with e _; cases e
  ·exact pdNext_mem (pd:=r) hm
 | (n+1,c')::r,d,c,hm=>by
  rcases List.mem_cons.1 hm with e | hm
  ·injection e with e1 e2; injection e1 with e1; subst e1 e2; simp [pdNext]
  ·exact List.mem_cons_of_mem _ (pdNext_mem hm)
theorem pdNew_mem{G:Gam}{m:MI}{env fr:List (Nat×AV)}{v:AV}:∀ {ls:List Nat} {d:Nat},d∈ls→(d,fun h=>stepV G true m (getT env fr) h=some (v,h))∈pdNew G m env fr v ls
 | [],_,hm=>by cases hm
 | x::r,d,hm=>by
  rcases List.mem_cons.1 hm with rfl | hm
  ·exact List.mem_cons_self
  ·exact List.mem_cons_of_mem _ (pdNew_mem hm)
section
variable {P:Program} {B:Base} {C D:Cx} {h:Heap} {w w':World} {G:Gam} {a:Act}
theorem trace_ofP{ks ow:List Nat}{n:Nat}{ops:Array Oper}{E:List Nat}{F:List (Nat×Nat)}{h0:Heap}{Q:List (Nat×AV)→List (Nat×AV)→Heap→Prop}:∀ (os:List Oper) (k0:Nat) (pd:Pend) (env fr:List (Nat×AV)) (h:Heap),Sep ks env→
  runP G h0 (flagE E F k0 (os.map (compMI P B.gv ks n ow ops))) Q pd env fr h→
  ∃ es hs vs env' fr' h',Q env' fr' h'∧Trace G (os.map (compMI P B.gv ks n ow ops)) es hs vs∧es 0=getT env fr∧hs 0=h∧es os.length=getT env' fr'∧hs os.length=h'∧(Sep ks env'∧(Keys ks fr→Keys ks fr'))∧
   (∀ (k:Nat) o,os[k]?=some o→compMI P B.gv ks n ow ops o≠botMI)∧(∀ (k:Nat) m,E.contains (k0+k)=true→(os.map (compMI P B.gv ks n ow ops))[k]?=some m→stepV G true m (es k) h0=some (vs k,h0))∧
   (∀ d c,(d,c)∈pd→d≤os.length→c (hs d))∧(∀ (k p:Nat) m,F.contains (k0+k,k0+p)=true→k<p→p≤os.length→(os.map (compMI P B.gv ks n ow ops))[k]?=some m→stepV G true m (es k) (hs p)=some (vs k,hs p))
 | [],k0,pd,env,fr,h,hsep,hq=>
  ⟨fun _=>getT env fr,fun _=>h,fun _=>.junk,env,fr,h,hq.2,⟨fun k m hm=>by simp at hm,fun k m hm=>by simp at hm⟩,rfl,rfl,rfl,rfl,⟨hsep,id⟩,fun k o hk=>by simp at hk,fun k m _ hm=>by simp at hm,fun d c hm hd=>(by
   have:d=0:=by simpa using hd
   subst this; exact pdDue_mem hq.1 hm),fun k p m _ _ _ hm=>by simp at hm⟩
 | o::os,k0,pd,env,fr,h,hsep,hq=>by
  simp only [List.map_cons,flagE,runP]at hq;obtain ⟨hdue,hq⟩:=hq;cases hs:stepV G true (compMI P B.gv ks n ow ops o) (getT env fr) h with
  | none=>simp only [hs]at hq
  | some vh=>
   obtain ⟨v,h1⟩:=vh;simp only [hs]at hq;obtain ⟨hearly,hq⟩:=hq;have hne:compMI P B.gv ks n ow ops o≠botMI:=fun e1=>by rw [e1,bot_none]at hs; cases hs
   obtain ⟨c1,c2,c3⟩:=compMI_dst hne;obtain ⟨env1,fr1,hb,hq1⟩:∃ env1 fr1,bindR (compMI P B.gv ks n ow ops o).dst (compMI P B.gv ks n ow ops o).kept env fr (some (v,h1))=.ok env1 fr1 h1∧runP G h0 (flagE E F (k0+1) (os.map (compMI P B.gv ks n ow ops))) Q (pdNew G (compMI P B.gv ks n ow ops o) env fr v ((F.filter fun q=>decide (q.1=k0)).map (fun q=>q.2-k0-1))++pdNext pd) env1 fr1 h1:=by
    cases hd:(compMI P B.gv ks n ow ops o).dst with
    | none=>simp only [hd]at hq; exact ⟨env,fr,rfl,hq⟩
    | some t=>
     simp only [hd]at hq;cases hk:(compMI P B.gv ks n ow ops o).kept with
     | true=>simp only [hk,if_true]at hq; exact ⟨env,upd t v fr,by simp [bindR],hq⟩
     | false=>simp only [hk,Bool.false_eq_true,if_false]at hq; exact ⟨(t,v)::env,fr,by simp [bindR],hq⟩
   obtain ⟨_,hsep1,hk1,hget⟩:=bind_get hsep (by rw [c2,c1]) hb;obtain ⟨es,hs',vs,env',fr',h',q0,ht,e1,e2,e3,e4,e5,e6,e7,e8,e9⟩:=trace_ofP os (k0+1) _ env1 fr1 h1 hsep1 hq1;refine ⟨fun k=>match k with | 0=>getT env fr | k+1=>es k,fun k=>match k with | 0=>h | k+1=>hs' k,fun k=>match k with | 0=>v | k+1=>vs k,env',fr',h',q0,⟨fun k m hm=>?_,fun k m hm t x hx=>?_⟩,rfl,rfl,e3,e4,⟨e5.1,fun hk=>e5.2 (hk1 hk)⟩,fun k o' hk=>?_,fun k m hc hm=>?_,fun d c hm hd=>?_,fun k p m hc hkp hp hm=>?_⟩
   ·cases k with
    | zero=>simp at hm; subst hm; show _=some (v,hs' 0); rw [e2]; exact hs
    | succ k=>exact ht.step k m (by simpa using hm)
   ·cases k with
    | zero=>simp at hm; subst hm; have hx':es 0 t=some x:=hx; rw [e1]at hx'; exact hget t x hx'
    | succ k=>exact ht.put k m (by simpa using hm) t x hx
   ·cases k with
    | zero=>simp at hk; subst hk; exact hne
    | succ k=>exact e6 k o' (by simpa using hk)
   ·cases k with
    | zero=>simp at hm; subst hm; exact hearly hc
    | succ k=>exact e7 k m (by rw [show k0+1+k=k0+(k+1)by omega]; exact hc) (by simpa using hm)
   ·cases d with
    | zero=>exact pdDue_mem hdue hm
    | succ d=>exact e8 d c (List.mem_append_right _ (pdNext_mem hm)) (by simpa using hd)
   ·cases p with
    | zero=>omega
    | succ p=>
     cases k with
     | zero=>
      simp at hm; subst hm;have hc':(k0,k0+(p+1))∈F:=by simpa using hc
      exact e8 p _ (List.mem_append_left _ (pdNew_mem (List.mem_map.2 ⟨(k0,k0+(p+1)),List.mem_filter.2 ⟨hc',by simp⟩,by simp⟩))) (by simpa using hp)
     | succ k=>exact e9 k p m (by rw [show k0+1+k=k0+(k+1)by omega,show k0+1+p=k0+(p+1)by omega]; exact hc) (by omega) (by simpa using hp) (by simpa using hm)
theorem early_any{ro:Option Nat}(hG:GamB P B G){ks ow:List Nat}{n:Nat}{E:List Nat}{F:List (Nat×Nat)}{ops:Array Oper}{Q:Exit→Act→World→Prop}{K:List (Nat×AV)→List (Nat×AV)→Heap→Prop}{env fr:List (Nat×AV)}(hst:StOK ks n B C env fr h a w)
  (hok:drawOKE E F ops.toList (compReg P B.gv ks n ow ops)=true) (hrun:runP G h (flagE E F 0 (compReg P B.gv ks n ow ops)) K [] env fr h)
  (hQ:∀ env' fr' h' D a' w',K env' fr' h'→C.Le D→StOK ks n B D env' fr' h' a' w'→a'.defers=a.defers→Keep B w w'→Q .normal a' w'):wpAnyIn (fR ro) 0 P .any ops Q ops.size (Array.replicate ops.size false) a { w with drawn:=w.drawn+1 }:=by
 obtain ⟨es,hs,vs,env',fr',h',q0,ht,e1,e2,e3,e4,e5,e6,e7,e8,e9⟩:=trace_ofP (E:=E) (F:=F) (h0:=h) ops.toList 0 [] env fr h hst.sep hrun
 have hb:Below w.heap.size w { w with drawn:=w.drawn+1 }:=below_drew w
 refine (any_sound (E:=E) (F:=F) (B:=B) (d:=a.defers) (w0:=w) (C0:=C) hG hok (fun k hk m hmk=>by rw [e2]; exact e7 k m (by simpa using hk) hmk) (fun k p hc hkp hp m hmk=>e9 k p m (by simpa using hc) hkp (by simpa using hp) hmk) ht e6 (fun D a' w' k1 k2 k3 k4 k5 k6=>hQ env' fr' h' D a' w' q0 k1 ⟨?_,?_,e5.1,e5.2 hst.keys,k4⟩ k5 k6) ops.size _ C a _ (by simp) (fun j o _ hj=>?_) ?_ (.refl C) (below_of hst.inv hb) ?_ ?_ hst.size rfl)
 ·rw [← e4]; simpa using k2
 ·rw [← e3]; simpa using k3
 ·simp only [getD_replicate_false]at hj; cases hj
 ·unfold undone; exact Nat.le_trans (List.length_filter_le _ _) (by simp)
 ·have:Hat (compReg P B.gv ks n ow ops) hs (fun i=>(Array.replicate ops.size false).getD i false) ops.size=hs 0:=by
   have:=Hat_up (mis:=compReg P B.gv ks n ow ops) (hs:=hs) (L:=fun i=>(Array.replicate ops.size false).getD i false) (k:=0) ops.size (fun i _ _ _=>getD_replicate_false _ _);simpa [Hat] using this
  rw [this,e2]; exact hst.inv.grow hb
 ·intro t x hx
  have:Eat (compReg P B.gv ks n ow ops) (es 0) vs (fun i=>(Array.replicate ops.size false).getD i false) ops.size t=es 0 t:=by
   have:=Eat_up (mis:=compReg P B.gv ks n ow ops) (e0:=es 0) (vs:=vs) (L:=fun i=>(Array.replicate ops.size false).getD i false) (t:=t) (k:=0) ops.size (fun i _ _ _=>getD_replicate_false _ _);simpa [Eat] using this
  rw [this,e1]at hx;exact hst.rel t x hx
theorem region_sound_early{ro:Option Nat}(hm:P.follows .mixedOrders=true)(hG:GamB P B G){ks ow:List Nat}{n id:Nat}{E:List Nat}{F:List (Nat×Nat)}{ops:Array Oper}{Q:Exit→Act→World→Prop}{K:List (Nat×AV)→List (Nat×AV)→Heap→Prop}{env fr:List (Nat×AV)}(hst:StOK ks n B C env fr h a w)
  (hok:drawOKE E F ops.toList (compReg P B.gv ks n ow ops)=true) (hrun:runP G h (flagE E F 0 (compReg P B.gv ks n ow ops)) K [] env fr h)
  (hQ:∀ env' fr' h' D a' w',K env' fr' h'→C.Le D→StOK ks n B D env' fr' h' a' w'→a'.defers=a.defers→Keep B w w'→Q .normal a' w'):(Code.region id ops true).wpIn (fR ro) 0 P Q a w:=
 wpIn_region_any hm (early_any hG hst hok hrun hQ)
end
end Go.Proofs.YtpefhfiehfkocaaGreatDoor
namespace Go.Proofs.YtpefhfiehfkocaaGreatDoor
open Go Go.RowKit
section
variable {F:Fence} {n:Nat} {P:Program} {Q:Exit→Act→World→Prop} {a:Act} {w:World} {b:Frame} {k:List Item} {cs:List Frame}
theorem stepR_scope{c:Code}:step P (lone (b.atR a (.code (.scope c)::k)) cs w)=.next (lone (b.atR a (.code c::.inScope c::k)) cs w):=
 step_lone_go (by simp [stepG,stepG.exec,Frame.atR])
theorem stepR_inScope{c:Code}:step P (lone (b.atR a (.inScope c::k)) cs w)=.next (lone (b.atR a k) cs w):=
 step_lone_go (by simp [stepG,stepG.exec,Frame.atR])
theorem wpIn_scope{c:Code}(h:c.wpIn F n P (Exit.noGoto Q) a w):(Code.scope c).wpIn F n P Q a w:=by
 intro b k cs hro hb hr
 have h0:(lone (b.atR a (.code (.scope c)::k)) cs w).fenced P F:=fenced_calm hb hr rfl
 obtain ⟨e,a₁,w₁,hq,harr⟩:=h b (.inScope c::k) cs hro hb hr
 cases e with
 | normal=>exact ⟨.normal,a₁,w₁,hq,.head h0 stepR_scope (StepsIn.trans harr (.one (fenced_calm hb hr rfl) stepR_inScope))⟩
 | exit id=>
  have hx:exitTo id (.inScope c::k)=exitTo id k:=by simp [exitTo]
  exact ⟨.exit id,a₁,w₁,hq,fun k' hk=>.head h0 stepR_scope (harr.1 k' (by rw [hx]; exact hk)),
   fun hr' hk=>let ⟨k₁,h1,h2⟩:=harr.2 hr' (by rw [hx]; exact hk); ⟨k₁,h1,.head h0 stepR_scope h2⟩⟩
 | goto l=>exact hq.elim
 | ret=>exact ⟨_,a₁,w₁,hq,.of_steps (.one h0 stepR_scope) harr⟩
 | panic ch=>exact ⟨_,a₁,w₁,hq,.of_steps (.one h0 stepR_scope) harr⟩
 | outgrown=>exact ⟨_,a₁,w₁,hq,.of_steps (.one h0 stepR_scope) harr⟩
end
end Go.Proofs.YtpefhfiehfkocaaGreatDoor
namespace Go.Proofs.YtpefhfiehfkocaaGreatDoor
open Go.RowKit
theorem gd{listed:Array Bool}{i:Nat}(hi:i<listed.size):listed.getD i true=listed.getD i false:=by simp [hi]
def renO(ρ:Nat→Nat)(more:List Nat)(o:Oper):Oper:=
 { o with after:=((o.after.toList.map fun (e:Edge)=>({ e with on:=ρ e.on }:Edge))++more.map fun j=>(⟨ρ j,.data⟩:Edge)).toArray,guard:=o.guard.map fun g=>(ρ g.1,g.2) }
def ahead(σ:List Nat)(i:Nat):List Nat:=if σ.contains i then σ.takeWhile (fun j=>j != i)else []
def renOps(ops:Array Oper)(ord σ:List Nat):Array Oper:=(ord.map fun i=>renO ord.idxOf (ahead σ i) (ops.getD i default)).toArray
def isOrd(n:Nat)(ord:List Nat):Bool:=decide (ord.length=n)&&ord.all (fun i=>decide (i<n))&&(List.range n).all fun i=>ord.contains i&&ord.idxOf (ord.getD i 0) == i
section
variable {P:Program} {F:Fence} {n:Nat} {ops:Array Oper} {Q:Exit→Act→World→Prop} {ord σ:List Nat}
structure Ord (N:Nat) (ord:List Nat):Prop where
 len:ord.length=N
 lt:∀ i∈ord,i<N
 mem:∀ i,i<N→i∈ord
 inv:∀ k,k<N→ord.idxOf (ord.getD k 0)=k
theorem ord_of{N:Nat}(h:isOrd N ord=true):Ord N ord:=by
 unfold isOrd at h
 simp only [Bool.and_eq_true,decide_eq_true_eq,List.all_eq_true,List.mem_range,beq_iff_eq]at h
 exact ⟨h.1.1,h.1.2,fun i hi=>by simpa using (h.2 i hi).1,fun k hk=>(h.2 k hk).2⟩
theorem Ord.at{N:Nat}(h:Ord N ord){i:Nat}(hi:i<N):ord[ord.idxOf i]?=some i:=by
 have h1:ord.idxOf i<ord.length:=List.idxOf_lt_length_of_mem (h.mem i hi)
 rw [List.getElem?_eq_getElem h1,List.getElem_idxOf]
theorem Ord.pos_lt{N:Nat}(h:Ord N ord){i:Nat}(hi:i<N):ord.idxOf i<N:=by
 have:=List.idxOf_lt_length_of_mem (h.mem i hi)
 rw [h.len]at this; exact this
theorem Ord.pos_ge{N:Nat}(h:Ord N ord){i:Nat}(hi:N≤i):N≤ord.idxOf i:=by
 rcases Nat.lt_or_ge (ord.idxOf i) N with h1 | h1
 ·have h2:ord.idxOf i<ord.length:=by rw [h.len]; exact h1
  have:ord[ord.idxOf i]=i:=List.getElem_idxOf h2;have:=h.lt i (by rw [← this]; exact List.getElem_mem h2);omega
 ·exact h1
theorem Ord.inj{N:Nat}(h:Ord N ord){i j:Nat}(hi:i<N)(hj:j<N)(e:ord.idxOf i=ord.idxOf j):i=j:=by
 have h1:=h.at hi
 rw [e,h.at hj]at h1
 injection h1 with h1; exact h1.symm
theorem ren_size:(renOps ops ord σ).size=ord.length:=by simp [renOps]
theorem ren_get(h:Ord ops.size ord){i:Nat}{o:Oper}(ho:ops[i]?=some o):(renOps ops ord σ)[ord.idxOf i]?=some (renO ord.idxOf (ahead σ i) o):=by
 have hi:i<ops.size:=(Array.getElem?_eq_some_iff.1 ho).1
 have h1:=h.at hi
 simp only [renOps,List.getElem?_toArray,List.getElem?_map,h1,Option.map_some]
 rw [show ops.getD i default=o by rw [Array.getD_eq_getD_getElem?,ho]; rfl]
theorem ren_yielded(h:Ord ops.size ord)(tmps:Array Value)(j:Nat):yielded (renOps ops ord σ) tmps (ord.idxOf j)=yielded ops tmps j:=by
 unfold yielded
 cases ho:ops[j]? with
 | some o=>rw [ren_get h ho]; rfl
 | none=>
  have hj:ops.size≤j:=by simpa using ho
  have:(renOps ops ord σ)[ord.idxOf j]?=none:=by
   rw [Array.getElem?_eq_none]; rw [ren_size,h.len]; exact h.pos_ge hj
  rw [this]
theorem ren_op(h:Ord ops.size ord){i:Nat}(hi:i<ops.size){K:Act→World→Prop}{a:Act}{w:World}(hk:wpOpIn F n P (renOps ops ord σ) Q (ord.idxOf i) K a w):wpOpIn F n P ops Q i K a w:=by
 have ho:ops[i]?=some ops[i]:=by simp [hi]
 unfold wpOpIn at hk ⊢
 rw [ren_get h ho]at hk
 rw [ho]
 dsimp only at hk ⊢
 have hw:Region.wanted (renO ord.idxOf (ahead σ i) ops[i]) (yielded (renOps ops ord σ) a.tmps)=Region.wanted ops[i] (yielded ops a.tmps):=by
  unfold Region.wanted renO;cases ops[i].guard with
  | none=>rfl
  | some g=>obtain ⟨j,b⟩:=g; simp only [Option.map_some,ren_yielded h]
 rw [hw]at hk
 exact hk
abbrev leftO(ops:Array Oper)(fuel t:Nat)(listed:Array Bool):List Nat:=Region.linearise.go .any ops fuel t listed []
theorem leftO_step{fuel t:Nat}{listed:Array Bool}:(Region.ready .any ops listed=[]∧leftO ops (fuel+1) t listed=[]) ∨
  ∃ i t',i∈Region.ready .any ops listed∧leftO ops (fuel+1) t listed=i::leftO ops fuel t' (listed.setIfInBounds i true):=by
 unfold leftO
 simp only [Region.linearise.go]
 change (_∧(match (Region.ready .any ops listed)[t % (Region.ready .any ops listed).length]? with
   | some i=>Region.linearise.go .any ops fuel (t / (Region.ready .any ops listed).length) (listed.setIfInBounds i true) [i]
   | none=>[].reverse)=[])∨∃ i t',i∈Region.ready .any ops listed∧(match (Region.ready .any ops listed)[t % (Region.ready .any ops listed).length]? with
   | some i=>Region.linearise.go .any ops fuel (t / (Region.ready .any ops listed).length) (listed.setIfInBounds i true) [i]
   | none=>[].reverse)=i::leftO ops fuel t' (listed.setIfInBounds i true)
 cases hi:(Region.ready .any ops listed)[t % (Region.ready .any ops listed).length]? with
 | none=>
  left
  refine ⟨?_,rfl⟩
  cases hr:Region.ready .any ops listed with
  | nil=>rfl
  | cons x xs=>
   rw [hr]at hi;have hlt:t % (x::xs).length<(x::xs).length:=Nat.mod_lt _ (by simp);simp at hi;simp at hlt;omega
 | some i=>
  right
  refine ⟨i,t / (Region.ready .any ops listed).length,List.mem_of_getElem? hi,?_⟩
  dsimp only;rw [linearise_go_acc]; rfl
theorem set_get{listed:Array Bool}{i j:Nat}(hi:i<listed.size):(listed.setIfInBounds i true).getD j false=if j=i then true else listed.getD j false:=by
 by_cases e:j=i
 ·subst e; rw [if_pos rfl]; simp [hi]
 ·rw [if_neg e]; exact getD_set_ne false (fun e'=>e e'.symm)
theorem alts_go{lou:Nat→Bool}(h:Ord ops.size ord):∀ (fuel t:Nat) (listed listed':Array Bool) (dn:List Nat) (a:Act) (w:World),listed.size=ops.size→listed'.size=ops.size→
  (∀ i,i<ops.size→listed'.getD (ord.idxOf i) false=listed.getD i false)→(∀ i∈dn,listed.getD i false=true)→σ=dn++(leftO ops fuel t listed).filter lou→
  wpAnyIn F n P .any (renOps ops ord σ) Q fuel listed' a w→wpOpsIn F n P ops Q (leftO ops fuel t listed) a w:=by
 intro fuel
 induction fuel with
 | zero=>
  intro t listed listed' dn a w _ _ _ _ _ hw;simpa [leftO,Region.linearise.go,wpOpsIn] using hw.2
 | succ fuel ih=>
  intro t listed listed' dn a w hs hs' hc hdn hσ hw;rcases leftO_step (ops:=ops) (fuel:=fuel) (t:=t) (listed:=listed)with ⟨hr,e⟩ | ⟨i,t',hi,e⟩
  ·rw [e]
   show Q .normal a w
   refine hw.1 ?_
   cases hr':Region.ready .any (renOps ops ord σ) listed' with
   | nil=>rfl
   | cons k r=>
    have hk:k∈Region.ready .any (renOps ops ord σ) listed':=by rw [hr']; simp
    obtain ⟨k1,o',k2,k3⟩:=mem_ready.1 hk;have hkN:k<ops.size:=by have:=(Array.getElem?_eq_some_iff.1 k2).1; rw [ren_size,h.len]at this; exact this
    have hik:ord.getD k 0<ops.size:=by
     refine h.lt _ ?_
     rw [List.getD_eq_getElem?_getD,List.getElem?_eq_getElem (by rw [h.len]; exact hkN)];exact List.getElem_mem _
    have hinv:=h.inv k hkN;have ho:ops[ord.getD k 0]?=some ops[ord.getD k 0]:=by simp
    have hg:=ren_get (σ:=σ) h ho;rw [hinv,k2]at hg;injection hg with hg
    have hcu:=hc _ hik;rw [hinv]at hcu;have:ord.getD k 0∈Region.ready .any ops listed:=mem_ready.2 ⟨by
     have hl:k<listed'.size:=by omega
     have hl2:ord.getD k 0<listed.size:=by omega
     rw [gd hl]at k1;rw [k1]at hcu;rw [gd hl2]; exact hcu.symm,_,ho,fun e he hb=>by
     have h1:=k3 { e with on:=ord.idxOf e.on } (by
      rw [hg];simp only [renO];rw [List.mem_toArray];exact List.mem_append_left _ (List.mem_map.2 ⟨e,by simpa using he,rfl⟩)) hb
     dsimp only at h1;rcases Nat.lt_or_ge e.on ops.size with h2 | h2
     ·rw [hc _ h2]at h1; exact h1
     ·have h3:=h.pos_ge h2
      rw [show listed'.getD (ord.idxOf e.on) false=false by
       have:listed'.size≤ord.idxOf e.on:=by omega
       simp [Array.getD,Nat.not_lt.2 this]]at h1
      cases h1⟩
    rw [hr]at this; cases this
  ·rw [e,wpOpsIn_cons]
   obtain ⟨k1,o,k2,k3⟩:=mem_ready.1 hi;have hiN:i<ops.size:=(Array.getElem?_eq_some_iff.1 k2).1;have hil:i<listed.size:=by omega
   have hun:listed.getD i false=false:=by simp [hil]at k1 ⊢; exact k1
   have hpl:ord.idxOf i<listed'.size:=by rw [hs']; exact h.pos_lt hiN
   have hahead:∀ j∈ahead σ i,listed.getD j false=true:=fun j hj=>by
    unfold ahead at hj;split at hj
    ·rename_i hmem
     have hlou:lou i=true:=by
      have:i∈σ:=by simpa using hmem
      rw [hσ]at this;rcases List.mem_append.1 this with h1 | h1
      ·rw [hdn i h1]at hun; cases hun
      ·exact (List.mem_filter.1 h1).2
     have he:σ=dn++i::(leftO ops fuel t' (listed.setIfInBounds i true)).filter lou:=by rw [hσ,e]; simp [hlou]
     rw [he]at hj;have hnd:∀ x∈dn,(x != i)=true:=fun x hx=>by
      have:x≠i:=fun e=>by subst e; rw [hdn x hx]at hun; cases hun
      simpa using this
     rw [List.takeWhile_append_of_pos hnd]at hj;simp at hj;exact hdn j hj
    ·cases hj
   have hrd:ord.idxOf i∈Region.ready .any (renOps ops ord σ) listed':=mem_ready.2 ⟨by
     have hcu:=hc i hiN;rw [hun]at hcu;simp [hpl]at hcu ⊢; exact hcu,_,ren_get h k2,fun e he hb=>by
     simp only [renO,List.mem_toArray]at he;rcases List.mem_append.1 he with he | he
     ·obtain ⟨e0,he0,rfl⟩:=List.mem_map.1 he
      have h1:=k3 e0 (by simpa using he0) hb;dsimp only;rcases Nat.lt_or_ge e0.on ops.size with h2 | h2
      ·rw [hc _ h2]; exact h1
      ·rw [show listed.getD e0.on false=false by simp [Array.getD,show ¬ e0.on<listed.size by omega]]at h1; cases h1
     ·obtain ⟨j,hj,rfl⟩:=List.mem_map.1 he
      have h1:=hahead j hj;dsimp only;rcases Nat.lt_or_ge j ops.size with h2 | h2
      ·rw [hc _ h2]; exact h1
      ·rw [show listed.getD j false=false by simp [Array.getD,show ¬ j<listed.size by omega]]at h1; cases h1⟩
   refine wpOpIn_mono (fun a' w' hw'=>?_) (ren_op h hiN (hw.2 _ hrd))
   refine ih t' (listed.setIfInBounds i true) (listed'.setIfInBounds (ord.idxOf i) true) (if lou i then dn++[i]else dn) a' w' (by simpa using hs) (by simpa using hs') (fun j hj=>?_) (fun j hj=>?_) ?_ hw'
   ·rw [set_get hpl,set_get hil]
    by_cases ej:j=i
    ·subst ej; simp
    ·rw [if_neg ej,if_neg (fun e=>ej (h.inj hj hiN e))]; exact hc j hj
   ·rw [set_get hil]
    split
    ·rfl
    ·rename_i hne
     split at hj
     ·rcases List.mem_append.1 hj with h1 | h1
      ·exact hdn j h1
      ·exact absurd (List.mem_singleton.1 h1) hne
     ·exact hdn j hj
   ·rw [hσ,e]
    cases hl:lou i <;> simp [hl]
end
def gens(as:List (List Nat)):Nat→List Nat→List (List Nat)
 | 0,_=>[[]]
 | m+1,R=>if R.isEmpty then [[]]else R.flatMap fun x=>if R.all fun y=>!(as.getD x []).contains y then (gens as m (R.filter fun y=>y != x)).map (x::·)else []
theorem gens_nil{as:List (List Nat)}:∀ m,[]∈gens as m []
 | 0=>by simp [gens]
 | m+1=>by simp [gens]
theorem go_gens{ops:Array Oper}{lou:Nat→Bool}{all:List Nat}(hall:∀ i,i<ops.size→lou i=true→i∈all)(hlou:∀ i∈all,i<ops.size∧lou i=true)(htop:∀ (k:Nat) o,ops[k]?=some o→∀ i∈directs o,i<k) :
  ∀ (fuel t:Nat) (listed:Array Bool) (m:Nat),listed.size=ops.size→Shut ops.toList (fun i=>listed.getD i false)→undone ops.size (fun i=>listed.getD i false)≤fuel→(all.filter fun i=>!listed.getD i false).length≤m→
   (leftO ops fuel t listed).filter lou∈gens (ancs ops.toList []) m (all.filter fun i=>!listed.getD i false):=by
 intro fuel
 induction fuel with
 | zero=>
  intro t listed m hs _ hu _;have hR:all.filter (fun i=>!listed.getD i false)=[]:=by
   rw [List.filter_eq_nil_iff];intro i hi;cases hb:listed.getD i false with
   | true=>simp
   | false=>
    have:i∈(List.range ops.size).filter fun i=>!listed.getD i false:=List.mem_filter.2 ⟨List.mem_range.2 (hlou i hi).1,by rw [hb]; rfl⟩
    have:=List.length_pos_of_mem this;unfold undone at hu; dsimp only at hu; omega
  rw [hR];exact gens_nil m
 | succ fuel ih=>
  intro t listed m hs hsh hu hm;rcases leftO_step (ops:=ops) (fuel:=fuel) (t:=t) (listed:=listed)with ⟨hr,e⟩ | ⟨i,t',hi,e⟩
  ·have hd:∀ i,i<ops.size→listed.getD i false=true:=by
    intro i;induction i using Nat.strongRecOn with
    | _ i ihi=>
     intro hi;cases hb:listed.getD i false with
     | true=>rfl
     | false=>
      have ho:ops[i]?=some ops[i]:=by simp [hi]
      have:i∈Region.ready .any ops listed:=mem_ready.2 ⟨by
       have hi':i<listed.size:=by omega
       simp [hi']at hb ⊢; exact hb,ops[i],ho,fun e he hb=>by
       have hlt:=htop i _ ho e.on (List.mem_filterMap.2 ⟨e,by simpa using he,by rw [if_pos hb]⟩);exact ihi e.on hlt (by omega)⟩
      rw [hr]at this; cases this
   have hR:all.filter (fun i=>!listed.getD i false)=[]:=by
    rw [List.filter_eq_nil_iff];intro i hi;rw [hd i (hlou i hi).1]; simp
   rw [e,hR];exact gens_nil m
  ·obtain ⟨k1,o,k2,k3⟩:=mem_ready.1 hi
   have hiN:i<ops.size:=(Array.getElem?_eq_some_iff.1 k2).1;have hil:i<listed.size:=by omega
   have hun:listed.getD i false=false:=by simp [hil]at k1 ⊢; exact k1
   have hdir:∀ j∈directs o,listed.getD j false=true:=fun j hj=>by
    obtain ⟨e,he,h1⟩:=List.mem_filterMap.1 hj;split at h1
    ·rename_i hb; injection h1 with h1; subst h1; exact k3 e (by simpa using he) hb
    ·cases h1
   have hset:(fun j=>(listed.setIfInBounds i true).getD j false)=fun j=>if j=i then true else listed.getD j false:=funext fun j=>set_get hil
   have hsh':Shut ops.toList (fun j=>(listed.setIfInBounds i true).getD j false):=by
    rw [hset];intro j oj hoj hj x hx;dsimp only at hj ⊢;by_cases ej:j=i
    ·subst ej
     have:oj=o:=by
      have h1:ops[j]?=some oj:=by simpa using hoj
      rw [k2]at h1; injection h1 with h1; exact h1.symm
     subst this;split
     ·rfl
     ·exact hdir x hx
    ·rw [if_neg ej]at hj
     split
     ·rfl
     ·exact hsh j oj hoj hj x hx
   have hu':undone ops.size (fun j=>(listed.setIfInBounds i true).getD j false)≤fuel:=by
    rw [hset];have:=filter_less (l:=List.range ops.size) (p:=fun j=>!listed.getD j false) (q:=fun j=>!(if j=i then true else listed.getD j false)) (k:=i) (fun x hx=>by
     by_cases e:x=i
     ·rw [if_pos e]at hx; cases hx
     ·rw [if_neg e]at hx; exact hx) (List.mem_range.2 hiN) (by rw [hun]; rfl) (by rw [if_pos rfl]; rfl)
    unfold undone at hu ⊢;dsimp only at hu ⊢;omega
   have hR':(all.filter fun j=>!(listed.setIfInBounds i true).getD j false)=(all.filter fun j=>!listed.getD j false).filter fun y=>y != i:=by
    rw [List.filter_filter];congr 1
    funext j
    rw [set_get hil];by_cases ej:j=i
    ·subst ej; simp
    ·simp [ej]
   rw [e];cases hl:lou i with
   | false=>
    have hRe:(all.filter fun j=>!(listed.setIfInBounds i true).getD j false)=all.filter fun j=>!listed.getD j false:=by
     rw [hR',List.filter_eq_self];intro j hj;have:j≠i:=fun e=>by
      subst e;have:=(hlou j (List.mem_filter.1 hj).1).2;rw [hl]at this; cases this
     simpa using this
    have:=ih t' (listed.setIfInBounds i true) m (by simpa using hs) hsh' hu' (by rw [hRe]; exact hm);rw [hRe]at this;simpa [hl] using this
   | true=>
    have hiR:i∈all.filter fun j=>!listed.getD j false:=List.mem_filter.2 ⟨hall i hiN hl,by simp [hun]⟩
    have hpos:=List.length_pos_of_mem hiR;cases m with
    | zero=>omega
    | succ m=>
     have hlen:(all.filter fun j=>!(listed.setIfInBounds i true).getD j false).length≤m:=by
      rw [hR'];have:=filter_less (l:=all.filter fun j=>!listed.getD j false) (p:=fun _=>true) (q:=fun y=>y != i) (k:=i) (fun _ _=>rfl) hiR rfl (by simp);rw [List.filter_eq_self.2 (fun _ _=>rfl)]at this;omega
     have h1:=ih t' (listed.setIfInBounds i true) m (by simpa using hs) hsh' hu' hlen;rw [hR']at h1;simp only [gens];rw [if_neg (by intro he; rw [List.isEmpty_iff]at he; rw [he]at hiR; cases hiR)];refine List.mem_flatMap.2 ⟨i,hiR,?_⟩
     rw [if_pos]
     ·simp only [List.filter_cons,hl,if_true]
      exact List.mem_map.2 ⟨_,h1,rfl⟩
     ·rw [List.all_eq_true]
      intro y hy;cases hb:(List.getD (ancs ops.toList []) i []).contains y with
      | false=>rfl
      | true=>
       have:=ancs_spec hsh ops.toList [] [] rfl rfl (fun j o _ hj=>by simp at hj) i o (by simpa using k2) hdir y (by simpa using hb);have h2:=(List.mem_filter.1 hy).2;rw [this]at h2; cases h2
theorem region_alts{P:Program}{F:Fence}{n id:Nat}{ops:Array Oper}{Q:Exit→Act→World→Prop}{a:Act}{w:World}(hm:P.follows .mixedOrders=true){lou:Nat→Bool}{all:List Nat}(hall:∀ i,i<ops.size→lou i=true→i∈all)(hlou:∀ i∈all,i<ops.size∧lou i=true)(htop:∀ (k:Nat) o,ops[k]?=some o→∀ i∈directs o,i<k)
  (hq:∀ σ∈gens (ancs ops.toList []) all.length all,∃ ord,Ord ops.size ord∧wpAnyIn F n P .any (renOps ops ord σ) Q ops.size (Array.replicate ops.size false) a { w with drawn:=w.drawn+1 }):(Code.region id ops true).wpIn F n P Q a w:=
 wpIn_region_draw fun t=>by
  simp only [Region.schedule,hm,Bool.true_or,if_true];have hf:(all.filter fun i=>!(Array.replicate ops.size false).getD i false)=all:=by
   rw [List.filter_eq_self]; intro i _; rw [getD_replicate_false]; rfl
  have h1:=go_gens hall hlou htop ops.size t (Array.replicate ops.size false) all.length (by simp) (fun j o _ hj=>by simp only [getD_replicate_false]at hj; cases hj) (by unfold undone; exact Nat.le_trans (List.length_filter_le _ _) (by simp)) (by rw [hf]; exact Nat.le_refl _);rw [hf]at h1;obtain ⟨ord,ho,hw⟩:=hq _ h1;exact alts_go (lou:=lou) ho ops.size t _ _ [] a _ (by simp) (by simp) (fun i _=>by rw [getD_replicate_false,getD_replicate_false]) (by simp) (by simp) hw
end Go.Proofs.YtpefhfiehfkocaaGreatDoor
