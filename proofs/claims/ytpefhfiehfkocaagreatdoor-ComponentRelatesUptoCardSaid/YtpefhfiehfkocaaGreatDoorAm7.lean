/- Control: a function's code,resolved,and what it does. What a function's code comes to is one thing: outcomes. A loop over a function: its record,yield,the rounds. A function's code,resolved: what -/
import Derived.Test.YtpefhfiehfkocaaGreatDoorAm6
import Derived.LoopNIn
import Derived.Tactics
namespace Go.Proofs.YtpefhfiehfkocaaGreatDoor
open Go.RowKit
inductive MC where
 | skip
 | reg (is:List MI)
 | rgd (is:List MI)
 | rge (is:List ME)
 | seq (a b:MC)
 | ite (c:At) (a b:MC)
 | blk (id:Nat) (a:MC)
 | loop (dead:List Nat) (a:MC)
 | exit (id:Nat)
 | ret
 | rgf (g:At) (ps:List Nat) (a b:MC)
 | rgn (g:At) (dst:Option Nat) (kept:Bool) (is:List MI)
 | both (a b:MC)
 | bad
 deriving Inhabited
def MC.det:MC→Bool
 | .seq a b=>a.det&&b.det
 | .ite _ a b=>a.det&&b.det
 | .blk _ a=>a.det
 | .loop _ a=>a.det
 | .rgf _ _ a b=>a.det&&b.det
 | .rgn _ _ _ _=>false
 | .both _ _=>false
 | _=>true
abbrev MPost:=MX→List (Nat×AV)→List (Nat×AV)→Heap→Prop
def junkAll(dead:List Nat):List (Nat×AV)→List (Nat×AV)
 | []=>[]
 | (k,v)::r=>(k,if dead.contains k then .junk else v)::junkAll dead r
mutual
def low(n:Nat):AV→Bool
 | .own l _ _=>decide (l<n)
 | .win l _ _ _=>decide (l<n)
 | .ptr l _=>decide (l<n)
 | .eptr l _ _ _=>decide (l<n)
 | .map l=>decide (l<n)
 | .yld l=>decide (l<n)
 | .agg cs=>lowL n cs
 | .tup cs=>lowL n cs
 | .fn _ cs=>lowL n cs
 | .mth _ v=>low n v
 | .iface _ v=>low n v
 | _=>true
def lowL(n:Nat):List AV→Bool
 | []=>true
 | a::as=>low n a&&lowL n as
end
def lowFr(n:Nat):List (Nat×AV)→Bool
 | []=>true
 | (_,v)::r=>low n v&&lowFr n r
def lowRows(n:Nat):List (List AV)→Bool
 | []=>true
 | r::rs=>lowL n r&&lowRows n rs
theorem lowL_add{n:Nat}:∀ {as bs:List AV},lowL n as=true→lowL n bs=true→lowL n (as++bs)=true
 | [],_,_,h=>h
 | a::as,bs,h,k=>by
  simp only [lowL,Bool.and_eq_true]at h;simp only [List.cons_append,lowL,Bool.and_eq_true];exact ⟨h.1,lowL_add h.2 k⟩
theorem lowRows_flat{n:Nat}:∀ {rows:List (List AV)},lowRows n rows=true→lowL n rows.flatten=true
 | [],_=>rfl
 | r::rs,h=>by
  simp only [lowRows,Bool.and_eq_true]at h;exact lowL_add h.1 (lowRows_flat h.2)
def lowB(n:Nat):Blk→Bool
 | .cellsT _ vs=>lowL n vs
 | .arrX true _ _ _ rows _=>lowRows n rows
 | .mit (some m) _ _ _=>decide (m<n)
 | _=>true
def lowH(n:Nat):Heap→Bool
 | []=>true
 | b::r=>lowB n b&&lowH n r
def trunc(n:Nat)(fr:List (Nat×AV))(h:Heap):Heap:=if lowFr n fr&&lowH n (h.take n)then h.take n else h
def truncD(dead:List Nat)(n:Nat)(fr:List (Nat×AV))(h:Heap):Heap:=if dead.contains 999999 then h else trunc n fr h
def seqQ(k:MPost)(Q:MPost):MPost
 | .normal,env,fr,h=>k .normal env fr h
 | x,env,fr,h=>Q x env fr h
def blkQ(id:Nat)(Q:MPost):MPost
 | .exit j,env,fr,h=>if j=id then Q .normal env fr h else Q (.exit j) env fr h
 | x,env,fr,h=>Q x env fr h
def roundsM(T:MPost→List (Nat×AV)→List (Nat×AV)→Heap→Prop)(dead:List Nat)(n:Nat)(Q:MPost):Nat→List (Nat×AV)→List (Nat×AV)→Heap→Prop
 | 0,_,_,_=>False
 | N+1,_,fr,h=>T (seqQ (fun _ env fr h=>roundsM T dead n Q N env fr h) Q) [] (junkAll dead fr) (truncD dead n (junkAll dead fr) h)
def putPs:List Nat→List AV→List (Nat×AV)→List (Nat×AV)
 | p::ps,v::vs,fr=>putPs ps vs (upd p v fr)
 | _,_,fr=>fr
def roundM(Ta Tb:MPost→List (Nat×AV)→List (Nat×AV)→Heap→Prop)(ps:List Nat)(fr:List (Nat×AV))(k:Nat)(args:List AV)(h:Heap)(K:MX→Heap→Prop):Prop:=
 h[k]?=some (.lp false .normal)∧args.length=ps.length∧Ta (fun x _ fr1 h1=>match x with
  | .normal=>h1[k]?=some (.lp false .normal)∧Tb (fun x _ _ h2=>h2[k]?=some (.lp true .normal)∧K x (h2.set k (.lp false x))) [] fr1 (h1.set k (.lp true .normal))
  | _=>False) [] (putPs ps args fr) h
def rgM(F:RdF)(T:List AV→Heap→(MX→Heap→Prop)→Prop)(k:Nat)(Q:MX→Heap→Prop):Nat→Nat→Heap→Prop
 | 0,_,_=>False
 | N+1,j,h=>match F j h with
  | none=>False
  | some (none,h1)=>h1[k]?=some (.lp false .normal)∧Q .normal (h1.set k .dead)
  | some (some args,h1)=>T args h1 fun x h2=>match x with
   | .normal=>rgM F T k Q N (j+1) h2
   | x=>Q x (h2.set k .dead)
def wpM(G:Gam):MC→MPost→List (Nat×AV)→List (Nat×AV)→Heap→Prop
 | .skip,Q,env,fr,h=>Q .normal env fr h
 | .reg is,Q,_,fr,h=>match run G false is (.ok [] fr h)with
  | .ok env' fr' h'=>Q .normal env' fr' h'
  | .bad=>False
 | .rgd is,Q,_,fr,h=>match run G true is (.ok [] fr h)with
  | .ok env' fr' h'=>Q .normal env' fr' h'
  | .bad=>False
 | .rge is,Q,_,fr,h=>runP G h is (fun env' fr' h'=>Q .normal env' fr' h') [] [] fr h
 | .seq a b,Q,env,fr,h=>wpM G a (seqQ (fun _ env fr h=>wpM G b Q env fr h) Q) env fr h
 | .ite c a b,Q,env,fr,h=>match getA (getT env fr) c with
  | some (.bool t)=>if t then wpM G a Q env fr h else wpM G b Q env fr h
  | _=>False
 | .blk id a,Q,env,fr,h=>wpM G a (blkQ id Q) env fr h
 | .loop dead a,Q,env,fr,h=>∃ N,roundsM (wpM G a) dead h.length Q N env fr h
 | .exit id,Q,env,fr,h=>Q (.exit id) env fr h
 | .ret,Q,env,fr,h=>Q .ret env fr h
 | .rgf g ps a b,Q,env,fr,h=>match getA (getT env fr) g with
  | some (.fn f caps)=>(match G f with
   | some (.iter F)=>∃ N,rgM (F caps (h++[.lp false .normal])) (roundM (wpM G a) (wpM G b) ps fr h.length) h.length (fun x h=>Q x env fr h) N 0 (h++[.lp false .normal])
   | _=>False)
  | _=>False
 | .rgn g dst kept is,Q,_,fr,h=>match getA (getT [] fr) g with
  | some (.ptr l 0)=>(match mnxAV h l with
   | some alts=>∀ r∈alts,match run G false is (bindR dst kept [] fr (some r))with
    | .ok env' fr' h'=>Q .normal env' fr' h'
    | .bad=>False
   | none=>False)
  | _=>False
 | .both a b,Q,env,fr,h=>wpM G a Q env fr h∧wpM G b Q env fr h
 | .bad,_,_,_,_=>False
def drawC(P:Program)(gv:Gv)(ks:List Nat)(n:Nat)(ow:List Nat)(ops:Array Oper):MC:=
 if drawOK ops.toList (compReg P gv ks n ow ops)then .rgd (compReg P gv ks n ow ops)
 else if drawOKE (earlies ops.toList (compReg P gv ks n ow ops)) (lates ops.toList (compReg P gv ks n ow ops)) ops.toList (compReg P gv ks n ow ops)then .rge (flagE (earlies ops.toList (compReg P gv ks n ow ops)) (lates ops.toList (compReg P gv ks n ow ops)) 0 (compReg P gv ks n ow ops))else .bad
def ordGo(ops:List Oper)(σ:List Nat):Nat→List Nat→List Nat
 | 0,acc=>acc
 | m+1,acc=>match (List.range ops.length).find? fun i=>!acc.contains i&&(((ops[i]?).map directs).getD []).all (fun j=>acc.contains j)&&(ahead σ i).all fun j=>acc.contains j with
  | some i=>ordGo ops σ m (acc++[i])
  | none=>acc
def ordQ(ops:List Oper)(mis:List MI)(σ:List Nat):Nat→List Nat→List Nat
 | 0,acc=>acc
 | m+1,acc=>
  let free:=(List.range ops.length).filter fun i=>!acc.contains i&&(((ops[i]?).map directs).getD []).all (fun j=>acc.contains j)&&(ahead σ i).all fun j=>acc.contains j
  match free.find? (fun i=>!MI.loudAt mis i)with
  | some i=>ordQ ops mis σ m (acc++[i])
  | none=>match free with
   | i::_=>ordQ ops mis σ m (acc++[i])
   | []=>acc
def altA(P:Program)(gv:Gv)(ks:List Nat)(n:Nat)(ow:List Nat)(ops:Array Oper)(σ ord:List Nat):MC:=
 if isOrd ops.size ord then drawC P gv ks n ow (renOps ops ord σ)else .bad
def MC.isBad:MC→Bool
 | .bad=>true
 | _=>false
def altC(P:Program)(gv:Gv)(ks:List Nat)(n:Nat)(ow:List Nat)(ops:Array Oper)(σ:List Nat):MC:=
 if (altA P gv ks n ow ops σ (ordGo ops.toList σ ops.size [])).isBad then altA P gv ks n ow ops σ (ordQ ops.toList (compReg P gv ks n ow ops) σ ops.size [])else altA P gv ks n ow ops σ (ordGo ops.toList σ ops.size [])
def louds(mis:List MI):List Nat:=(List.range mis.length).filter (MI.loudAt mis)
def bothL:List MC→MC
 | []=>.bad
 | [c]=>c
 | c::d::cs=>.both c (bothL (d::cs))
def topB(ops:List Oper):Bool:=(List.range ops.length).all fun k=>(((ops[k]?).map directs).getD []).all fun i=>decide (i<k)
def altsC(P:Program)(gv:Gv)(ks:List Nat)(n:Nat)(ow:List Nat)(ops:Array Oper):MC:=
 if topB ops.toList&&decide ((louds (compReg P gv ks n ow ops)).length≤9)then bothL ((gens (ancs ops.toList []) (louds (compReg P gv ks n ow ops)).length (louds (compReg P gv ks n ow ops))).map (altC P gv ks n ow ops))else .bad
def mapNext:List Oper→Option (Operand×Oper)
 | o::_=>match o.op,o.guard with
  | .next it false,none=>some (it,o)
  | _,_=>none
 | []=>none
def compC0(top:Bool)(P:Program)(gv:Gv)(ks:List Nat)(n:Nat)(ow:List Nat):Code→List (List Nat)→MC×List (List Nat)
 | .skip,dl=>(.skip,dl)
 | .region _ ops draw,dl=>match mapNext ops.toList with
  | some (it,o)=>if draw then (.bad,dl)else match compAt gv it with
   | some g=>if (o.dst.map fun t=>decide (t<n)).getD true then (.rgn g o.dst ((o.dst.map fun t=>ks.contains t).getD false) (compReg P gv ks n ow ops).tail,dl)else (.bad,dl)
   | none=>(.bad,dl)
  | none=>if draw then (if drawOK ops.toList (compReg P gv ks n ow ops)then (.rgd (compReg P gv ks n ow ops),dl)
   else if drawOKE (earlies ops.toList (compReg P gv ks n ow ops)) (lates ops.toList (compReg P gv ks n ow ops)) ops.toList (compReg P gv ks n ow ops)then (.rge (flagE (earlies ops.toList (compReg P gv ks n ow ops)) (lates ops.toList (compReg P gv ks n ow ops)) 0 (compReg P gv ks n ow ops)),dl)else (altsC P gv ks n ow ops,dl))
  else (.reg (compReg P gv ks n ow ops),dl)
 | .seq a b,dl=>let (x,dl):=compC0 top P gv ks n ow a dl; let (y,dl):=compC0 top P gv ks n ow b dl; (.seq x y,dl)
 | .cond c a b,dl=>match compAt gv c with
  | some c'=>let (x,dl):=compC0 top P gv ks n ow a dl; let (y,dl):=compC0 top P gv ks n ow b dl; (.ite c' x y,dl)
  | none=>(.bad,dl)
 | .block id a,dl=>let (x,dl):=compC0 top P gv ks n ow a dl; (.blk id x,dl)
 | .loop a,dl=>let (x,dl'):=compC0 top P gv ks n ow a dl.tail; (.loop (dl.headD []) x,dl')
 | .exit id,dl=>(.exit id,dl)
 | .ret,dl=>(.ret,dl)
 | .label _,dl=>(.skip,dl)
 | .scope a,dl=>compC0 top P gv ks n ow a dl
 | .rangeFunc g ps a b,dl=>if top then (match compAt gv g with
  | some g'=>let (x,dl):=compC0 false P gv ks n ow a dl; let (y,dl):=compC0 false P gv ks n ow b dl; (if x.det&&y.det then .rgf g' ps.toList x y else .bad,dl)
  | none=>(.bad,dl))else (.bad,dl)
 | _,dl=>(.bad,dl)
def compC(P:Program)(gv:Gv)(ks:List Nat)(n:Nat)(ow:List Nat):Code→List (List Nat)→MC×List (List Nat):=compC0 true P gv ks n ow
section
variable {P:Program} {B:Base} {C D:Cx} {h:Heap} {w w':World} {G:Gam} {a:Act}
def Cx.cut(C:Cx)(n:Nat):Cx:=⟨C.im,fun l=>if l<n then C.bl l else none,fun l v=>if l<n then C.ar l v else none⟩
theorem le_cut{C0:Cx}{n:Nat}(h:C0.Le C)(hl:∀ l,n≤l→C0.bl l=none∧∀ v,C0.ar l v=none):C0.Le (C.cut n):=by
 refine ⟨h.im,fun l b x=>?_,fun l v r x=>?_⟩
 ·have:l<n:=by
   rcases Nat.lt_or_ge l n with h1 | h1
   ·exact h1
   ·rw [(hl l h1).1]at x; cases x
  simp only [Cx.cut,if_pos this]; exact h.bl l b x
 ·have:l<n:=by
   rcases Nat.lt_or_ge l n with h1 | h1
   ·exact h1
   ·rw [(hl l h1).2 v]at x; cases x
  simp only [Cx.cut,if_pos this]; exact h.ar l v r x
mutual
theorem low_rel{n:Nat}:∀ {v:AV} {u:Value},low n v=true→Rel C v u→Rel (C.cut n) v u
 | .own l ver k,u,hl,hr=>by
  simp only [low,decide_eq_true_eq]at hl;generalize hk:k=k' at hr;cases hr with
  | ownnil _ _ h=>exact .ownnil _ _ (by simp only [Cx.cut,if_pos hl]; exact h)
  | own _ _ _ r h hn=>exact .own _ _ _ r (by simp only [Cx.cut,if_pos hl]; exact h) hn
 | .win l ver lo k,u,hl,hr=>by
  simp only [low,decide_eq_true_eq]at hl;cases hr with
  | win _ _ _ _ r h hn=>exact .win _ _ _ _ r (by simp only [Cx.cut,if_pos hl]; exact h) hn
 | .ptr l off,u,hl,hr=>by
  simp only [low,decide_eq_true_eq]at hl;cases hr with
  | ptr _ _ b h=>exact .ptr _ _ b (by simp only [Cx.cut,if_pos hl]; exact h)
 | .eptr l ver i off,u,hl,hr=>by
  simp only [low,decide_eq_true_eq]at hl;cases hr with
  | eptr _ _ _ _ r h=>exact .eptr _ _ _ _ r (by simp only [Cx.cut,if_pos hl]; exact h)
 | .map l,u,hl,hr=>by
  simp only [low,decide_eq_true_eq]at hl;cases hr with
  | map _ b h=>exact .map _ b (by simp only [Cx.cut,if_pos hl]; exact h)
 | .agg cs,u,hl,hr=>by
  simp only [low]at hl;cases hr with
  | agg _ vs hs h=>exact .agg _ vs hs (fun i c v hc hv=>(low_relL (us:=vs.toList) hl ⟨by simpa using hs,fun i c v hc hv=>h i c v hc (by simpa using hv)⟩).2 i c v hc (by simpa using hv))
 | .tup cs,u,hl,hr=>by
  simp only [low]at hl;cases hr with
  | tup _ vs hs h=>exact .tup _ vs hs (fun i c v hc hv=>(low_relL (us:=vs.toList) hl ⟨by simpa using hs,fun i c v hc hv=>h i c v hc (by simpa using hv)⟩).2 i c v hc (by simpa using hv))
 | .fn f cs,u,hl,hr=>by
  simp only [low]at hl;cases hr with
  | fn _ _ vs hs h=>exact .fn _ _ vs hs (fun i c v hc hv=>(low_relL (us:=vs.toList) hl ⟨by simpa using hs,fun i c v hc hv=>h i c v hc (by simpa using hv)⟩).2 i c v hc (by simpa using hv))
 | .iface t v,u,hl,hr=>by
  simp only [low]at hl;cases hr with
  | iface _ _ x h=>exact .iface _ _ x (low_rel hl h)
 | .mth f v,u,hl,hr=>by
  simp only [low]at hl;cases hr with
  | mth _ _ x h=>exact .mth _ _ x (low_rel hl h)
 | .bool b,u,_,hr=>by rw [bool_inv hr]; exact .bool b
 | .int k m,u,_,hr=>by rw [int_inv hr]; exact .int k m
 | .str s,u,_,hr=>by rw [str_inv hr]; exact .str s
 | .sl rows,u,_,hr=>by
  cases hr with
  | slnil=>exact .slnil
  | slz a cap=>exact .slz a cap
  | sl _ b o cap size us h1 h2 h3 h4=>exact .sl _ b o cap size us h1 h2 h3 h4
 | .tsl rows,u,_,hr=>by
  cases hr with
  | tslnil=>exact .tslnil
  | tslz a=>exact .tslz a
  | tsl _ b o size us h2 h3 h4=>exact .tsl _ b o size us h2 h3 h4
 | .nils,u,_,hr=>by cases hr; exact .nils
 | .fptr row off,u,_,hr=>by
  cases hr with
  | fptr _ _ b o us h1 h2=>exact .fptr _ _ b o us h1 h2
 | .gptr g off,u,_,hr=>by cases hr; exact .gptr g off
 | .nilp,u,_,hr=>by cases hr; exact .nilp
 | .nilm,u,_,hr=>by cases hr; exact .nilm
 | .nilf,u,_,hr=>by cases hr; exact .nilf
 | .nili,u,_,hr=>by cases hr; exact .nili
 | .yld l,u,hl,hr=>by
  simp only [low,decide_eq_true_eq]at hl;cases hr with
  | yld _ b h=>exact .yld _ b (by simp only [Cx.cut,if_pos hl]; exact h)
 | .junk,u,_,hr=>.junk u
theorem low_relL{n:Nat}:∀ {vs:List AV} {us:List Value},lowL n vs=true→RelL C vs us→RelL (C.cut n) vs us
 | [],us,_,h=>by rw [h.inv_nil]; exact .nil
 | a::as,us,hl,h=>by
  obtain ⟨u,us',rfl,h1,h2⟩:=h.inv_cons;simp only [lowL,Bool.and_eq_true]at hl;exact .cons (low_rel hl.1 h1) (low_relL hl.2 h2)
end
theorem lowFr_get{n:Nat}:∀ {fr:List (Nat×AV)} {t:Nat} {x:AV},lowFr n fr=true→lkp t fr=some x→low n x=true
 | [],_,_,_,h=>by simp [lkp]at h
 | (k,v)::r,t,x,hl,h=>by
  simp only [lowFr,Bool.and_eq_true]at hl;simp only [lkp]at h;split at h
  ·injection h with h; subst h; exact hl.1
  ·exact lowFr_get hl.2 h
theorem lowH_get{n:Nat}:∀ {h:Heap} {l:Nat} {b:Blk},lowH n h=true→h[l]?=some b→lowB n b=true
 | [],_,_,_,h=>by simp at h
 | x::r,l,b,hl,h=>by
  simp only [lowH,Bool.and_eq_true]at hl;cases l with
  | zero=>simp at h; subst h; exact hl.1
  | succ l=>exact lowH_get hl.2 (by simpa using h)
theorem trunc_inv(hi:Inv B C h w){n:Nat}(hrc:∀ l x,B.rc l=some x→l<n)(hcx:∀ l,n≤l→B.cx.bl l=none∧∀ v,B.cx.ar l v=none)(hl:lowH n (h.take n)=true):Inv B (C.cut n) (h.take n) w:=by
 have get:∀ (l:Nat) blk,(h.take n)[l]?=some blk→l<n∧h[l]?=some blk:=fun l blk hb=>by
  rw [List.getElem?_take]at hb;split at hb
  ·exact ⟨‹_›,hb⟩
  ·cases hb
 have bo:∀ (l:Nat) blk,l<n→blockOf (C.cut n) l blk=blockOf C l blk:=fun l blk hln=>by cases blk <;> simp [blockOf,Cx.cut,hln]
 refine ⟨hi.im,hi.one,fun l blk hb=>?_,fun l l' blk blk' b h1 h2 h3 h4=>?_,fun l hll=>?_,fun l ne tg sz ver rows wr hb v hv=>?_,hi.hB,hi.low,hi.gl,hi.tb,fun l x hx=>by have:=hi.rcl l x hx; have:=hrc l x hx; simp; omega,le_cut hi.cle hcx⟩
 ·obtain ⟨hln,hb'⟩:=get l blk hb
  have k:=hi.ok l blk hb';have hlow:=lowH_get hl hb;cases blk with
  | cellsT tg vs=>
   obtain ⟨b,cur,e,h1,h2,h3,h4,h5,h6⟩:=k;exact ⟨b,cur,e,by simp only [Cx.cut,if_pos hln]; exact h1,h2,h3,h4,low_relL hlow h5,h6⟩
  | arrX ne tg sz ver rows wr=>
   rcases k with ⟨k1,k2⟩ | ⟨r,cur,k1,k2,k3,k4,k5,k6,k7,k8,k9⟩
   ·exact .inl ⟨by simp only [Cx.cut,if_pos hln]; exact k1,k2⟩
   ·refine .inr ⟨r,cur,by simp only [Cx.cut,if_pos hln]; exact k1,k2,k3,k4,k5,k6,k7,?_,k9⟩
    cases ne with
    | false=>exact k8
    | true=>exact low_relL (lowRows_flat hlow) k8
  | map es=>
   obtain ⟨b,ms,ck,h1,h2⟩:=k;exact ⟨b,ms,ck,by simp only [Cx.cut,if_pos hln]; exact h1,h2⟩
  | iter s pos=>
   obtain ⟨b,h1,h2⟩:=k;exact ⟨b,by simp only [Cx.cut,if_pos hln]; exact h1,h2⟩
  | lp busy x=>
   obtain ⟨b,r,h1,h2⟩:=k;exact ⟨b,r,by simp only [Cx.cut,if_pos hln]; exact h1,h2⟩
  | mit m nn seen last=>
   obtain ⟨b,mo,h1,h2,h3,h4⟩:=k;refine ⟨b,mo,by simp only [Cx.cut,if_pos hln]; exact h1,h2,h3,?_⟩
   cases m with
   | none=>exact h4
   | some m=>
    obtain ⟨bm,h5,h6⟩:=h4;have hm:m<n:=by simpa [lowB] using hlow
    exact ⟨bm,by simp only [Cx.cut,if_pos hm]; exact h5,h6⟩
  | dead=>trivial
 ·obtain ⟨hl1,hb1⟩:=get l blk h1
  obtain ⟨hl2,hb2⟩:=get l' blk' h2;rw [bo l blk hl1]at h3;rw [bo l' blk' hl2]at h4;exact hi.inj l l' blk blk' b hb1 hb2 h3 h4
 ·by_cases hln:l<n
  ·have:h.length≤l:=by simp at hll; omega
   have:=hi.fr l this;exact ⟨by simp only [Cx.cut,if_pos hln]; exact this.1,fun v=>by simp only [Cx.cut,if_pos hln]; exact this.2 v⟩
  ·exact ⟨by simp only [Cx.cut,if_neg hln],fun v=>by simp only [Cx.cut,if_neg hln]⟩
 ·obtain ⟨hln,hb'⟩:=get l _ hb
  simp only [Cx.cut,if_pos hln];exact hi.fv l ne tg sz ver rows wr hb' v hv
theorem lkp_junkAll(dead:List Nat)(t:Nat):∀ (fr:List (Nat×AV)),lkp t (junkAll dead fr)=(lkp t fr).map fun v=>if dead.contains t then .junk else v
 | []=>rfl
 | (k,v)::r=>by
  simp only [junkAll,lkp];by_cases h:t=k
  ·subst h; simp
  ·simp only [if_neg h]; exact lkp_junkAll dead t r
theorem StOK.clear{ks:List Nat}{n:Nat}{env fr:List (Nat×AV)}(hst:StOK ks n B C env fr h a w):StOK ks n B C [] fr h a w:=
 ⟨hst.inv,fun t x hx=>hst.rel t x (by
  have hx':lkp t fr=some x:=hx;have hk:=hst.keys t x hx';have:lkp t env=none:=by
   cases hl:lkp t env with
   | none=>rfl
   | some y=>have:=hst.sep t y hl; rw [hk]at this; cases this
  simp only [getT,this]; exact hx'),fun t v hx=>by simp [lkp]at hx,hst.keys,hst.size⟩
theorem StOK.head{ks:List Nat}{n m:Nat}{env fr:List (Nat×AV)}{C0:Cx}(hst:StOK ks n B C env fr h a w)(hrc:∀ l x,B.rc l=some x→l<m)(hcx:∀ l,m≤l→B.cx.bl l=none∧∀ v,B.cx.ar l v=none)(hle:C0.Le C)(hl:∀ l,m≤l→C0.bl l=none∧∀ v,C0.ar l v=none)(dead:List Nat) :
  ∃ D,C0.Le D∧StOK ks n B D [] (junkAll dead fr) (truncD dead m (junkAll dead fr) h) a w:=by
 have h1:=hst.clear
 have h2:StOK ks n B C [] (junkAll dead fr) h a w:=⟨h1.inv,fun t x hx=>by
  have hx':lkp t (junkAll dead fr)=some x:=hx;rw [lkp_junkAll]at hx';simp only [Option.map_eq_some_iff]at hx';obtain ⟨y,hy,rfl⟩:=hx';obtain ⟨u,k1,k2⟩:=h1.rel t y hy;refine ⟨u,k1,?_⟩
  split
  ·exact .junk u
  ·exact k2,fun t v hx=>by simp [lkp]at hx,fun t v hx=>by
  rw [lkp_junkAll]at hx;simp only [Option.map_eq_some_iff]at hx;obtain ⟨y,hy,_⟩:=hx;exact hst.keys t y hy,h1.size⟩
 unfold truncD
 split
 ·exact ⟨C,hle,h2⟩
 unfold trunc
 split
 ·rename_i hc
  simp only [Bool.and_eq_true]at hc;refine ⟨C.cut m,le_cut hle hl,⟨trunc_inv h2.inv hrc hcx hc.2,fun t x hx=>?_,h2.sep,h2.keys,h2.size⟩⟩
  obtain ⟨u,k1,k2⟩:=h2.rel t x hx;exact ⟨u,k1,low_rel (lowFr_get hc.1 hx) k2⟩
 ·exact ⟨C,hle,h2⟩
end
end Go.Proofs.YtpefhfiehfkocaaGreatDoor
namespace Go.Proofs.YtpefhfiehfkocaaGreatDoor
open Go.RowKit
section
variable {G:Gam}
def OneOut(T:MPost→List (Nat×AV)→List (Nat×AV)→Heap→Prop):Prop:=
 ∀ (Q:MPost) (env fr:List (Nat×AV)) (h:Heap),T Q env fr h→∃ x env' fr' h',Q x env' fr' h'∧∀ Q':MPost,Q' x env' fr' h'→T Q' env fr h
def BothOut(T:MPost→List (Nat×AV)→List (Nat×AV)→Heap→Prop):Prop:=
 ∀ (Q Q':MPost) (env fr:List (Nat×AV)) (h:Heap),T Q env fr h→T Q' env fr h→T (fun x e f h=>Q x e f h∧Q' x e f h) env fr h
theorem OneOut.mono{T:MPost→List (Nat×AV)→List (Nat×AV)→Heap→Prop}(ht:OneOut T){Q Q':MPost}{env fr:List (Nat×AV)}{h:Heap}(hq:T Q env fr h)(hm:∀ x env fr h,Q x env fr h→Q' x env fr h):T Q' env fr h:=by
 obtain ⟨x,e1,f1,h1,k1,k2⟩:=ht Q env fr h hq
 exact k2 Q' (hm _ _ _ _ k1)
theorem round_at{Ta Tb:MPost→List (Nat×AV)→List (Nat×AV)→Heap→Prop}(ha:OneOut Ta)(hb:OneOut Tb){ps:List Nat}{fr:List (Nat×AV)}{k:Nat}{args:List AV}{h:Heap}{K:MX→Heap→Prop}
  (hq:roundM Ta Tb ps fr k args h K):∃ x h',K x h'∧h'[k]?=some (.lp false x)∧∀ K':MX→Heap→Prop,K' x h'→roundM Ta Tb ps fr k args h K':=by
 obtain ⟨q1,q2,q3⟩:=hq
 obtain ⟨x1,e1,f1,h1,k1,k2⟩:=ha _ _ _ _ q3
 cases x1 with
 | normal=>
  obtain ⟨k3,k4⟩:=k1;obtain ⟨x2,e2,f2,h2,⟨k5,k6⟩,k7⟩:=hb _ _ _ _ k4;refine ⟨x2,h2.set k (.lp false x2),k6,?_,fun K' hK=>⟨q1,q2,k2 _ ⟨k3,k7 _ ⟨k5,hK⟩⟩⟩⟩
  rw [List.getElem?_set_self (List.getElem?_eq_some_iff.1 k5).1]
 | exit i=>exact k1.elim
 | ret=>exact k1.elim
theorem round_both{Ta Tb:MPost→List (Nat×AV)→List (Nat×AV)→Heap→Prop}(ha:OneOut Ta)(hb:OneOut Tb)(ha2:BothOut Ta)(hb2:BothOut Tb){ps:List Nat}{fr:List (Nat×AV)}{k:Nat}{args:List AV}{h:Heap}{K K':MX→Heap→Prop}
  (hq:roundM Ta Tb ps fr k args h K) (hq':roundM Ta Tb ps fr k args h K'):roundM Ta Tb ps fr k args h (fun x h=>K x h∧K' x h):=by
 obtain ⟨q1,q2,q3⟩:=hq
 obtain ⟨_,_,q3'⟩:=hq'
 refine ⟨q1,q2,ha.mono (ha2 _ _ _ _ _ q3 q3') fun x e f h1 hh=>?_⟩
 obtain ⟨hh1,hh2⟩:=hh
 cases x with
 | normal=>
  refine ⟨hh1.1,hb.mono (hb2 _ _ _ _ _ hh1.2 hh2.2) fun x e f h2 hh=>⟨hh.1.1,hh.1.2,hh.2.2⟩⟩
 | exit i=>exact hh1.elim
 | ret=>exact hh1.elim
theorem rgM_at{F:RdF}{T:List AV→Heap→(MX→Heap→Prop)→Prop}{k:Nat}(ht:∀ {args:List AV} {h:Heap} {K:MX→Heap→Prop},T args h K→∃ x h',K x h'∧h'[k]?=some (.lp false x)∧∀ K':MX→Heap→Prop,K' x h'→T args h K'){Q:MX→Heap→Prop} :
  ∀ (N j:Nat) (h:Heap),rgM F T k Q N j h→∃ x h',Q x h'∧∀ Q':MX→Heap→Prop,Q' x h'→rgM F T k Q' N j h
 | 0,_,_,hq=>hq.elim
 | N+1,j,h,hq=>by
  simp only [rgM]at hq ⊢;split at hq
  ·exact hq.elim
  ·rename_i h1 hF
   exact ⟨_,_,hq.2,fun Q' k=>⟨hq.1,k⟩⟩
  ·rename_i args h1 hF
   obtain ⟨x,h2,k1,k2,k3⟩:=ht hq;cases x with
   | normal=>
    obtain ⟨y,h3,k4,k5⟩:=rgM_at (F:=F) (T:=T) (k:=k) (Q:=Q) ht N (j+1) h2 k1;exact ⟨y,h3,k4,fun Q' k=>k3 _ (k5 Q' k)⟩
   | exit i=>exact ⟨_,_,k1,fun Q' k=>k3 _ k⟩
   | ret=>exact ⟨_,_,k1,fun Q' k=>k3 _ k⟩
theorem rgM_both{F:RdF}{T:List AV→Heap→(MX→Heap→Prop)→Prop}{k:Nat}(ht:∀ {args:List AV} {h:Heap} {K:MX→Heap→Prop},T args h K→∃ x h',K x h'∧h'[k]?=some (.lp false x)∧∀ K':MX→Heap→Prop,K' x h'→T args h K')
  (hb:∀ {args:List AV} {h:Heap} {K K':MX→Heap→Prop},T args h K→T args h K'→T args h fun x h=>K x h∧K' x h) {Q Q':MX→Heap→Prop} :
  ∀ (N N' j:Nat) (h:Heap),rgM F T k Q N j h→rgM F T k Q' N' j h→rgM F T k (fun x h=>Q x h∧Q' x h) N j h
 | 0,_,_,_,hq,_=>hq.elim
 | _+1,0,_,_,_,hq=>hq.elim
 | N+1,N'+1,j,h,hq,hq'=>by
  simp only [rgM]at hq hq' ⊢;cases hF:F j h with
  | none=>simp only [hF]at hq
  | some r=>
   obtain ⟨o,h1⟩:=r;cases o with
   | none=>
    simp only [hF]at hq hq' ⊢;exact ⟨hq.1,hq.2,hq'.2⟩
   | some args=>
    simp only [hF]at hq hq' ⊢;obtain ⟨x,h2,k1,_,k3⟩:=ht (hb hq hq');refine k3 _ ?_
    cases x with
    | normal=>exact rgM_both (F:=F) (T:=T) (k:=k) (Q:=Q) (Q':=Q') ht hb N N' (j+1) h2 k1.1 k1.2
    | exit i=>exact k1
    | ret=>exact k1
theorem runP_at{h0:Heap}:∀ (is:List ME) {Q:List (Nat×AV)→List (Nat×AV)→Heap→Prop} {pd:Pend} {env fr:List (Nat×AV)} {h:Heap},runP G h0 is Q pd env fr h→∃ env' fr' h',Q env' fr' h'∧∀ Q':List (Nat×AV)→List (Nat×AV)→Heap→Prop,Q' env' fr' h'→runP G h0 is Q' pd env fr h
 | [],Q,pd,env,fr,h,hq=>⟨env,fr,h,hq.2,fun _ k=>⟨hq.1,k⟩⟩
 | (e,ls,m)::is,Q,pd,env,fr,h,hq=>by
  simp only [runP]at hq ⊢;obtain ⟨hu,hq⟩:=hq;split at hq
  ·exact hq.elim
  ·rename_i v h' hs
   obtain ⟨q1,q2⟩:=hq;cases hd:m.dst with
   | none=>
    simp only [hd]at q2 ⊢;obtain ⟨e1,f1,h1,k1,k2⟩:=runP_at is q2;exact ⟨e1,f1,h1,k1,fun Q' k=>⟨hu,q1,k2 Q' k⟩⟩
   | some t=>
    simp only [hd]at q2 ⊢;split at q2
    ·rename_i hk
     obtain ⟨e1,f1,h1,k1,k2⟩:=runP_at is q2;exact ⟨e1,f1,h1,k1,fun Q' k=>⟨hu,q1,by rw [if_pos hk]; exact k2 Q' k⟩⟩
    ·rename_i hk
     obtain ⟨e1,f1,h1,k1,k2⟩:=runP_at is q2;exact ⟨e1,f1,h1,k1,fun Q' k=>⟨hu,q1,by rw [if_neg hk]; exact k2 Q' k⟩⟩
theorem runP_both{h0:Heap}:∀ (is:List ME) {Q Q':List (Nat×AV)→List (Nat×AV)→Heap→Prop} {pd:Pend} {env fr:List (Nat×AV)} {h:Heap},runP G h0 is Q pd env fr h→runP G h0 is Q' pd env fr h→runP G h0 is (fun e f h=>Q e f h∧Q' e f h) pd env fr h
 | [],Q,Q',pd,env,fr,h,hq,hq'=>⟨hq.1,hq.2,hq'.2⟩
 | (e,ls,m)::is,Q,Q',pd,env,fr,h,hq,hq'=>by
  simp only [runP]at hq hq' ⊢;obtain ⟨hu,hq⟩:=hq;replace hq':=hq'.2
  split at hq
  ·exact hq.elim
  ·rename_i v h' hs
   simp only [hs]at hq';refine ⟨hu,hq.1,?_⟩
   obtain ⟨_,q2⟩:=hq;obtain ⟨_,q3⟩:=hq';cases hd:m.dst with
   | none=>simp only [hd]at q2 q3 ⊢; exact runP_both is q2 q3
   | some t=>
    simp only [hd]at q2 q3 ⊢;split at q2
    ·rename_i hk; rw [if_pos hk]at q3 ⊢; exact runP_both is q2 q3
    ·rename_i hk; rw [if_neg hk]at q3 ⊢; exact runP_both is q2 q3
abbrev OutC:=MX×List (Nat×AV)×List (Nat×AV)×Heap
def FinP{α:Type}(S:(α→Prop)→Prop):Prop:=∀ Q:α→Prop,S Q→∃ L:List α,(∀ o∈L,Q o)∧∀ Q':α→Prop,(∀ o∈L,Q' o)→S Q'
def Un(Q:OutC→Prop):MPost:=fun x e f h=>Q (x,e,f,h)
theorem FinP.mono{α:Type}{S:(α→Prop)→Prop}(hs:FinP S){Q Q':α→Prop}(hq:S Q)(hm:∀ o,Q o→Q' o):S Q':=by
 obtain ⟨L,h1,h2⟩:=hs Q hq
 exact h2 Q' fun o ho=>hm o (h1 o ho)
theorem fin_at{α:Type}(o:α):FinP fun Q=>Q o:=fun Q hq=>⟨[o],by simpa using hq,fun Q' h=>h o (by simp)⟩
theorem fin_false{α:Type}:FinP fun _:α→Prop=>False:=fun _Q hq=>hq.elim
theorem fin_and{α:Type}{p:Prop}{S:(α→Prop)→Prop}(hs:FinP S):FinP fun Q=>p∧S Q:=fun Q hq=>by
 obtain ⟨L,h1,h2⟩:=hs Q hq.2
 exact ⟨L,h1,fun Q' h=>⟨hq.1,h2 Q' h⟩⟩
theorem fin_all{α β:Type}{K:β→(α→Prop)→Prop}(hk:∀ b,FinP (K b)):∀ l:List β,FinP fun Q=>∀ b∈l,K b Q
 | [],Q,_=>⟨[],by simp,fun Q' _ b hb=>by simp at hb⟩
 | b::l,Q,hq=>by
  obtain ⟨L1,h1,h2⟩:=hk b Q (hq b (by simp));obtain ⟨L2,h3,h4⟩:=fin_all hk l Q fun c hc=>hq c (by simp [hc])
  refine ⟨L1++L2,fun o ho=>?_,fun Q' h c hc=>?_⟩
  ·rcases List.mem_append.1 ho with ho | ho
   ·exact h1 o ho
   ·exact h3 o ho
  ·rcases List.mem_cons.1 hc with rfl | hc
   ·exact h2 Q' fun o ho=>h o (by simp [ho])
   ·exact h4 Q' (fun o ho=>h o (by simp [ho])) c hc
theorem fin_both{α:Type}{S T:(α→Prop)→Prop}(hs:FinP S)(ht:FinP T):FinP fun Q=>S Q∧T Q:=fun Q hq=>by
 obtain ⟨L1,h1,h2⟩:=hs Q hq.1
 obtain ⟨L2,h3,h4⟩:=ht Q hq.2
 refine ⟨L1++L2,fun o ho=>?_,fun Q' h=>⟨h2 Q' fun o ho=>h o (by simp [ho]),h4 Q' fun o ho=>h o (by simp [ho])⟩⟩
 rcases List.mem_append.1 ho with ho | ho
 ·exact h1 o ho
 ·exact h3 o ho
theorem fin_bind{α β:Type}{S:(β→Prop)→Prop}{K:β→(α→Prop)→Prop}(hs:FinP S)(hk:∀ b,FinP (K b)):FinP fun Q=>S fun b=>K b Q:=fun Q hq=>by
 obtain ⟨L1,h1,h2⟩:=hs _ hq
 obtain ⟨L,h3,h4⟩:=fin_all hk L1 Q h1
 exact ⟨L,h3,fun Q' h=>h2 _ (h4 Q' h)⟩
theorem fin_ex{α:Type}{S:Nat→(α→Prop)→Prop}(hs:∀ N,FinP (S N)):FinP fun Q=>∃ N,S N Q:=fun Q hq=>by
 obtain ⟨N,hq⟩:=hq
 obtain ⟨L,h1,h2⟩:=hs N Q hq
 exact ⟨L,h1,fun Q' h=>⟨N,h2 Q' h⟩⟩
abbrev FinT(T:MPost→List (Nat×AV)→List (Nat×AV)→Heap→Prop):Prop:=∀ env fr h,FinP fun Q:OutC→Prop=>T (Un Q) env fr h
theorem FinT.mono{T:MPost→List (Nat×AV)→List (Nat×AV)→Heap→Prop}(ht:FinT T){Q Q':MPost}{env fr:List (Nat×AV)}{h:Heap}(hq:T Q env fr h)(hm:∀ x env fr h,Q x env fr h→Q' x env fr h):T Q' env fr h:=
 FinP.mono (ht env fr h) (Q:=fun o=>Q o.1 o.2.1 o.2.2.1 o.2.2.2) (Q':=fun o=>Q' o.1 o.2.1 o.2.2.1 o.2.2.2) hq fun _o=>hm _ _ _ _
theorem rounds_fin{T:MPost→List (Nat×AV)→List (Nat×AV)→Heap→Prop}(ht:FinT T){dead:List Nat}{n:Nat}:∀ N,FinT fun Q=>roundsM T dead n Q N
 | 0=>fun _ _ _=>fin_false
 | N+1=>fun env fr h=>by
  have:=fin_bind (K:=fun (o:OutC) (Q:OutC→Prop)=>seqQ (fun _ env fr h=>roundsM T dead n (Un Q) N env fr h) (Un Q) o.1 o.2.1 o.2.2.1 o.2.2.2) (ht [] (junkAll dead fr) (truncD dead n (junkAll dead fr) h)) fun o=>by
   obtain ⟨x,e,f,h⟩:=o;cases x with
   | normal=>exact rounds_fin ht N e f h
   | exit i=>exact fin_at (MX.exit i,e,f,h)
   | ret=>exact fin_at (MX.ret,e,f,h)
  exact this
theorem rounds_up{T:MPost→List (Nat×AV)→List (Nat×AV)→Heap→Prop}(ht:FinT T){dead:List Nat}{n:Nat}{Q:MPost}:∀ (N M:Nat) (env fr:List (Nat×AV)) (h:Heap),N≤M→roundsM T dead n Q N env fr h→roundsM T dead n Q M env fr h
 | 0,_,_,_,_,_,hq=>hq.elim
 | N+1,0,_,_,_,hl,_=>by omega
 | N+1,M+1,env,fr,h,hl,hq=>by
  simp only [roundsM]at hq ⊢;refine ht.mono hq fun x e f h hh=>?_
  cases x with
  | normal=>exact rounds_up ht N M e f h (by omega) hh
  | exit i=>exact hh
  | ret=>exact hh
theorem round_fin{Ta Tb:MPost→List (Nat×AV)→List (Nat×AV)→Heap→Prop}(ha:FinT Ta)(hb:FinT Tb){ps:List Nat}{fr:List (Nat×AV)}{k:Nat}{args:List AV}{h:Heap} :
  FinP fun Q:MX×Heap→Prop=>roundM Ta Tb ps fr k args h fun x h=>Q (x,h):=by
 refine fin_and (fin_and ?_)
 refine fin_bind (K:=fun (o:OutC) (Q:MX×Heap→Prop)=>match o.1 with
  | .normal=>o.2.2.2[k]?=some (.lp false .normal)∧Tb (fun x _ _ h2=>h2[k]?=some (.lp true .normal)∧Q (x,h2.set k (.lp false x))) [] o.2.2.1 (o.2.2.2.set k (.lp true .normal))
  | _=>False) (ha [] (putPs ps args fr) h) fun o=>?_
 obtain ⟨x,e,f,h⟩:=o
 cases x with
 | normal=>
  refine fin_and ?_
  exact fin_bind (K:=fun (o:OutC) (Q:MX×Heap→Prop)=>o.2.2.2[k]?=some (.lp true .normal)∧Q (o.1,o.2.2.2.set k (.lp false o.1))) (hb [] f (h.set k (.lp true .normal))) fun o=>fin_and (fin_at _)
 | exit i=>exact fin_false
 | ret=>exact fin_false
theorem rgM_fin{F:RdF}{T:List AV→Heap→(MX→Heap→Prop)→Prop}{k:Nat}(ht:∀ args h,FinP fun Q:MX×Heap→Prop=>T args h fun x h=>Q (x,h)) :
  ∀ (N j:Nat) (h:Heap),FinP fun Q:MX×Heap→Prop=>rgM F T k (fun x h=>Q (x,h)) N j h
 | 0,_,_=>fin_false
 | N+1,j,h=>by
  simp only [rgM];cases F j h with
  | none=>exact fin_false
  | some r=>
   obtain ⟨o,h1⟩:=r;cases o with
   | none=>exact fin_and (fin_at _)
   | some args=>
    refine fin_bind (K:=fun (o:MX×Heap) (Q:MX×Heap→Prop)=>match o.1 with
     | .normal=>rgM F T k (fun x h=>Q (x,h)) N (j+1) o.2
     | x=>Q (x,o.2.set k .dead)) (ht args h1) fun o=>?_
    obtain ⟨x,h2⟩:=o;cases x with
    | normal=>exact rgM_fin ht N (j+1) h2
    | exit i=>exact fin_at _
    | ret=>exact fin_at _
theorem runP_fin{h0:Heap}:∀ (is:List ME) {pd:Pend} {env fr:List (Nat×AV)} {h:Heap},FinP fun Q:OutC→Prop=>runP G h0 is (fun e f h=>Q (.normal,e,f,h)) pd env fr h:=fun is pd env fr h Q hq=>by
 obtain ⟨e1,f1,h1,k1,k2⟩:=runP_at is hq
 exact ⟨[(.normal,e1,f1,h1)],by simpa using k1,fun Q' h=>k2 _ (h _ (by simp))⟩
theorem wpM_fin:∀ a:MC,FinT (wpM G a)
 | .skip=>fun env fr h=>fin_at (MX.normal,env,fr,h)
 | .reg is=>fun env fr h=>by
  simp only [wpM];cases run G false is (.ok [] fr h)with
  | ok e f h=>exact fin_at (MX.normal,e,f,h)
  | bad=>exact fin_false
 | .rgd is=>fun env fr h=>by
  simp only [wpM];cases run G true is (.ok [] fr h)with
  | ok e f h=>exact fin_at (MX.normal,e,f,h)
  | bad=>exact fin_false
 | .rge is=>fun env fr h=>runP_fin is
 | .seq a b=>fun env fr h=>by
  refine fin_bind (K:=fun (o:OutC) (Q:OutC→Prop)=>seqQ (fun _ env fr h=>wpM G b (Un Q) env fr h) (Un Q) o.1 o.2.1 o.2.2.1 o.2.2.2) (wpM_fin a env fr h) fun o=>?_
  obtain ⟨x,e,f,h⟩:=o;cases x with
  | normal=>exact wpM_fin b e f h
  | exit i=>exact fin_at (MX.exit i,e,f,h)
  | ret=>exact fin_at (MX.ret,e,f,h)
 | .ite c a b=>fun env fr h=>by
  simp only [wpM];cases hc:getA (getT env fr) c with
  | none=>exact fin_false
  | some v=>
   cases v <;> first | exact fin_false | skip
   rename_i t;cases t with
   | true=>simp only [if_true]; exact wpM_fin a env fr h
   | false=>simp only [Bool.false_eq_true,if_false]; exact wpM_fin b env fr h
 | .blk id a=>fun env fr h=>by
  refine fin_bind (K:=fun (o:OutC) (Q:OutC→Prop)=>blkQ id (Un Q) o.1 o.2.1 o.2.2.1 o.2.2.2) (wpM_fin a env fr h) fun o=>?_
  obtain ⟨x,e,f,h⟩:=o;cases x with
  | normal=>exact fin_at (MX.normal,e,f,h)
  | exit i=>
   simp only [blkQ];split
   ·exact fin_at (MX.normal,e,f,h)
   ·exact fin_at (MX.exit i,e,f,h)
  | ret=>exact fin_at (MX.ret,e,f,h)
 | .loop dead a=>fun env fr h=>fin_ex fun N=>rounds_fin (wpM_fin a) N env fr h
 | .exit id=>fun env fr h=>fin_at (MX.exit id,env,fr,h)
 | .ret=>fun env fr h=>fin_at (MX.ret,env,fr,h)
 | .rgf g ps a b=>fun env fr h=>by
  simp only [wpM];cases hc:getA (getT env fr) g with
  | none=>exact fin_false
  | some v=>
   cases v <;> first | exact fin_false | skip
   rename_i f caps;dsimp only;cases hF:G.fn f with
   | none=>exact fin_false
   | some c=>
    cases c <;> first | exact fin_false | skip
    rename_i F;refine fin_ex fun N=>?_
    exact fin_bind (K:=fun (o:MX×Heap) (Q:OutC→Prop)=>Q (o.1,env,fr,o.2)) (rgM_fin (fun args h=>round_fin (wpM_fin a) (wpM_fin b)) N 0 _) fun o=>fin_at _
 | .rgn g dst kept is=>fun env fr h=>by
  simp only [wpM];cases hc:getA (getT [] fr) g with
  | none=>exact fin_false
  | some v=>
   cases v <;> first | exact fin_false | skip
   rename_i l off;cases off with
   | succ _=>exact fin_false
   | zero=>
    have hfin:FinP (fun Q:OutC→Prop=>match mnxAV h l with
     | some alts=>∀ r∈alts,match run G false is (bindR dst kept [] fr (some r))with
      | .ok env' fr' h'=>Q (.normal,env',fr',h')
      | .bad=>False
     | none=>False):=by
     cases mnxAV h l with
     | none=>exact fin_false
     | some alts=>
      refine fin_all (K:=fun (r:AV×Heap) (Q:OutC→Prop)=>match run G false is (bindR dst kept [] fr (some r))with
       | .ok env' fr' h'=>Q (.normal,env',fr',h')
       | .bad=>False) (fun r=>?_) alts
      cases run G false is (bindR dst kept [] fr (some r))with
      | ok e f h=>exact fin_at (MX.normal,e,f,h)
      | bad=>exact fin_false
    exact hfin
 | .both a b=>fun env fr h=>fin_both (wpM_fin a env fr h) (wpM_fin b env fr h)
 | .bad=>fun _ _ _=>fin_false
theorem wpM_mono{a:MC}{Q Q':MPost}{env fr:List (Nat×AV)}{h:Heap}(hq:wpM G a Q env fr h)(hm:∀ x env fr h,Q x env fr h→Q' x env fr h):wpM G a Q' env fr h:=(wpM_fin a).mono hq hm
theorem wpM_at:∀ (a:MC) (_:a.det=true) {Q:MPost} {env fr:List (Nat×AV)} {h:Heap},wpM G a Q env fr h→∃ x env' fr' h',Q x env' fr' h'∧∀ Q':MPost,Q' x env' fr' h'→wpM G a Q' env fr h
 | .skip,_,Q,env,fr,h,hq=>⟨_,_,_,_,hq,fun _ k=>k⟩
 | .reg is,_,Q,env,fr,h,hq=>by
  simp only [wpM]at hq ⊢;split at hq
  ·rename_i hr; exact ⟨_,_,_,_,hq,fun Q' k=>k⟩
  ·exact hq.elim
 | .rgd is,_,Q,env,fr,h,hq=>by
  simp only [wpM]at hq ⊢;split at hq
  ·rename_i hr; exact ⟨_,_,_,_,hq,fun Q' k=>k⟩
  ·exact hq.elim
 | .rge is,_,Q,env,fr,h,hq=>by
  obtain ⟨e1,f1,h1,k1,k2⟩:=runP_at is hq;exact ⟨.normal,e1,f1,h1,k1,fun Q' k=>k2 (fun e f h=>Q' .normal e f h) k⟩
 | .seq a b,hd,Q,env,fr,h,hq=>by
  simp only [MC.det,Bool.and_eq_true]at hd;simp only [wpM]at hq ⊢;obtain ⟨x,e1,f1,h1,k1,k2⟩:=wpM_at a hd.1 hq;cases x with
  | normal=>
   obtain ⟨y,e2,f2,h2,k3,k4⟩:=wpM_at b hd.2 k1;exact ⟨y,e2,f2,h2,k3,fun Q' k=>k2 _ (k4 Q' k)⟩
  | exit i=>exact ⟨.exit i,e1,f1,h1,k1,fun Q' k=>k2 _ k⟩
  | ret=>exact ⟨.ret,e1,f1,h1,k1,fun Q' k=>k2 _ k⟩
 | .ite c a b,hd,Q,env,fr,h,hq=>by
  simp only [MC.det,Bool.and_eq_true]at hd;simp only [wpM]at hq ⊢;split at hq
  ·rename_i t ht
   cases t with
   | true=>
    simp only [if_true]at hq;obtain ⟨x,e1,f1,h1,k1,k2⟩:=wpM_at a hd.1 hq;exact ⟨x,e1,f1,h1,k1,fun Q' k=>by simpa [ht] using k2 Q' k⟩
   | false=>
    simp only [Bool.false_eq_true,if_false]at hq;obtain ⟨x,e1,f1,h1,k1,k2⟩:=wpM_at b hd.2 hq;exact ⟨x,e1,f1,h1,k1,fun Q' k=>by simpa [ht] using k2 Q' k⟩
  ·exact hq.elim
 | .blk id a,hd,Q,env,fr,h,hq=>by
  simp only [wpM]at hq ⊢;obtain ⟨x,e1,f1,h1,k1,k2⟩:=wpM_at a hd hq;cases x with
  | normal=>exact ⟨.normal,e1,f1,h1,k1,fun Q' k=>k2 _ k⟩
  | exit i=>
   simp only [blkQ]at k1;by_cases hi:i=id
   ·rw [if_pos hi]at k1; exact ⟨.normal,e1,f1,h1,k1,fun Q' k=>k2 _ (by simp only [blkQ]; rw [if_pos hi]; exact k)⟩
   ·rw [if_neg hi]at k1; exact ⟨.exit i,e1,f1,h1,k1,fun Q' k=>k2 _ (by simp only [blkQ]; rw [if_neg hi]; exact k)⟩
  | ret=>exact ⟨.ret,e1,f1,h1,k1,fun Q' k=>k2 _ k⟩
 | .loop dead a,hd,Q,env,fr,h,hq=>by
  simp only [wpM]at hq ⊢;obtain ⟨N,hr⟩:=hq;generalize h.length=m at hr ⊢;have key:∀ (N:Nat) (env fr:List (Nat×AV)) (h:Heap),roundsM (wpM G a) dead m Q N env fr h→∃ x env' fr' h',Q x env' fr' h'∧∀ Q':MPost,Q' x env' fr' h'→roundsM (wpM G a) dead m Q' N env fr h:=by
   intro N;induction N with
   | zero=>intro env fr h hr; exact hr.elim
   | succ N ih=>
    intro env fr h hr;simp only [roundsM]at hr ⊢;obtain ⟨x,e1,f1,h1,k1,k2⟩:=wpM_at a hd hr;cases x with
    | normal=>
     obtain ⟨y,e2,f2,h2,k3,k4⟩:=ih _ _ _ k1;exact ⟨y,e2,f2,h2,k3,fun Q' k=>k2 _ (k4 Q' k)⟩
    | exit i=>exact ⟨.exit i,e1,f1,h1,k1,fun Q' k=>k2 _ k⟩
    | ret=>exact ⟨.ret,e1,f1,h1,k1,fun Q' k=>k2 _ k⟩
  obtain ⟨x,e1,f1,h1,k1,k2⟩:=key N env fr h hr;exact ⟨x,e1,f1,h1,k1,fun Q' k=>⟨N,k2 Q' k⟩⟩
 | .exit id,_,Q,env,fr,h,hq=>⟨_,_,_,_,hq,fun _ k=>k⟩
 | .ret,_,Q,env,fr,h,hq=>⟨_,_,_,_,hq,fun _ k=>k⟩
 | .rgf g ps a b,hd,Q,env,fr,h,hq=>by
  simp only [MC.det,Bool.and_eq_true]at hd;simp only [wpM]at hq ⊢;split at hq
  ·rename_i f caps hg
   split at hq
   ·rename_i F hF
    obtain ⟨N,hr⟩:=hq;obtain ⟨x,h',k1,k2⟩:=rgM_at (T:=roundM (wpM G a) (wpM G b) ps fr h.length) (Q:=fun x h=>Q x env fr h) (fun hq=>round_at (fun _ _ _ _ q=>wpM_at a hd.1 q) (fun _ _ _ _ q=>wpM_at b hd.2 q) hq) N 0 _ hr;exact ⟨x,env,fr,h',k1,fun Q' k=>⟨N,k2 (fun x h=>Q' x env fr h) k⟩⟩
   ·exact hq.elim
  ·exact hq.elim
 | .rgn g dst kept is,hd,Q,env,fr,h,hq=>by simp [MC.det]at hd
 | .both a b,hd,Q,env,fr,h,hq=>by simp [MC.det]at hd
 | .bad,_,Q,env,fr,h,hq=>hq.elim
theorem wpM_one(a:MC)(hd:a.det=true):OneOut (wpM G a):=fun _ _ _ _ q=>wpM_at a hd q
theorem rounds_both{T:MPost→List (Nat×AV)→List (Nat×AV)→Heap→Prop}(ht:OneOut T)(hb:BothOut T){dead:List Nat}{n:Nat}{Q Q':MPost} :
  ∀ (N N':Nat) (env fr:List (Nat×AV)) (h:Heap),roundsM T dead n Q N env fr h→roundsM T dead n Q' N' env fr h→roundsM T dead n (fun x e f h=>Q x e f h∧Q' x e f h) N env fr h
 | 0,_,_,_,_,hq,_=>hq.elim
 | _+1,0,_,_,_,_,hq=>hq.elim
 | N+1,N'+1,env,fr,h,hq,hq'=>by
  simp only [roundsM]at hq hq' ⊢;refine ht.mono (hb _ _ _ _ _ hq hq') fun x e f h hh=>?_
  cases x with
  | normal=>exact rounds_both ht hb N N' e f h hh.1 hh.2
  | exit i=>exact hh
  | ret=>exact hh
theorem wpM_both:∀ (a:MC) (_:a.det=true),BothOut (wpM G a)
 | .skip,_=>fun Q Q' env fr h hq hq'=>⟨hq,hq'⟩
 | .reg is,_=>fun Q Q' env fr h hq hq'=>by
  simp only [wpM]at hq hq' ⊢;split at hq
  ·rename_i hr; rw [hr]at hq'; exact ⟨hq,hq'⟩
  ·exact hq.elim
 | .rgd is,_=>fun Q Q' env fr h hq hq'=>by
  simp only [wpM]at hq hq' ⊢;split at hq
  ·rename_i hr; rw [hr]at hq'; exact ⟨hq,hq'⟩
  ·exact hq.elim
 | .rge is,_=>fun Q Q' env fr h hq hq'=>runP_both is hq hq'
 | .seq a b,hd=>fun Q Q' env fr h hq hq'=>by
  simp only [MC.det,Bool.and_eq_true]at hd;simp only [wpM]at hq hq' ⊢;refine wpM_mono (wpM_both a hd.1 _ _ _ _ _ hq hq') fun x e f h hh=>?_
  cases x with
  | normal=>exact wpM_both b hd.2 _ _ _ _ _ hh.1 hh.2
  | exit i=>exact hh
  | ret=>exact hh
 | .ite c a b,hd=>fun Q Q' env fr h hq hq'=>by
  simp only [MC.det,Bool.and_eq_true]at hd;simp only [wpM]at hq hq' ⊢;split at hq
  ·rename_i t ht
   simp only [ht]at hq';cases t with
   | true=>simp only [if_true]at hq hq' ⊢; exact wpM_both a hd.1 _ _ _ _ _ hq hq'
   | false=>simp only [Bool.false_eq_true,if_false]at hq hq' ⊢; exact wpM_both b hd.2 _ _ _ _ _ hq hq'
  ·exact hq.elim
 | .blk id a,hd=>fun Q Q' env fr h hq hq'=>by
  simp only [wpM]at hq hq' ⊢;refine wpM_mono (wpM_both a hd _ _ _ _ _ hq hq') fun x e f h hh=>?_
  cases x with
  | normal=>exact hh
  | exit i=>
   obtain ⟨h1,h2⟩:=hh;simp only [blkQ]at h1 h2 ⊢;by_cases hi:i=id
   ·rw [if_pos hi]at h1 h2 ⊢; exact ⟨h1,h2⟩
   ·rw [if_neg hi]at h1 h2 ⊢; exact ⟨h1,h2⟩
  | ret=>exact hh
 | .loop dead a,hd=>fun Q Q' env fr h hq hq'=>by
  simp only [wpM]at hq hq' ⊢;obtain ⟨N,hr⟩:=hq;obtain ⟨N',hr'⟩:=hq';exact ⟨N,rounds_both (wpM_one a hd) (wpM_both a hd) N N' _ _ _ hr hr'⟩
 | .exit id,_=>fun Q Q' env fr h hq hq'=>⟨hq,hq'⟩
 | .ret,_=>fun Q Q' env fr h hq hq'=>⟨hq,hq'⟩
 | .rgf g ps a b,hd=>fun Q Q' env fr h hq hq'=>by
  simp only [MC.det,Bool.and_eq_true]at hd;simp only [wpM]at hq hq' ⊢;split at hq
  ·rename_i f caps hg
   split at hq
   ·rename_i F hF
    try rw [hg]at hq'
    try simp only [hF]at hq'
    obtain ⟨N,hr⟩:=hq;obtain ⟨N',hr'⟩:=hq';exact ⟨N,rgM_both (T:=roundM (wpM G a) (wpM G b) ps fr h.length) (Q:=fun x h=>Q x env fr h) (Q':=fun x h=>Q' x env fr h) (fun hq=>round_at (wpM_one a hd.1) (wpM_one b hd.2) hq) (fun hq hq'=>round_both (wpM_one a hd.1) (wpM_one b hd.2) (wpM_both a hd.1) (wpM_both b hd.2) hq hq') N N' 0 _ hr hr'⟩
   ·exact hq.elim
  ·exact hq.elim
 | .rgn g dst kept is,hd=>by simp [MC.det]at hd
 | .both a b,hd=>by simp [MC.det]at hd
 | .bad,_=>fun Q Q' env fr h hq hq'=>hq.elim
end
end Go.Proofs.YtpefhfiehfkocaaGreatDoor
namespace Go.Proofs.YtpefhfiehfkocaaGreatDoor
open Go.RowKit
def MX.is:MX→Exit→Prop
 | .normal,.normal=>True
 | .exit i,.exit j=>i=j
 | .ret,.ret=>True
 | _,_=>False
def MX.nrm:MX→Bool
 | .normal=>true
 | _=>false
def mark(D:Nat):Deferred:={ target:=.collected D,args:=#[] }
structure Marks (w0:World) (Ds:List Nat) (w:World):Prop where
 nodup:Ds.Nodup
 there:∀ D∈Ds,w0.heap.size≤D∧w.heap[D]?=some (.deferred (some []))
structure Way (B:Base) (C0:Cx) (w0:World) (d:List Deferred) (C:Cx) (a:Act) (w:World):Prop where
 le:C0.Le C
 keep:Keep B w0 w
 ds:∃ Ds,a.defers=Ds.map mark++d∧Marks w0 Ds w
theorem Way.step{B:Base}{C0 C D:Cx}{w0 w w':World}{d:List Deferred}{a a':Act}(h:Way B C0 w0 d C a w)(hl:C.Le D)(hk:Keep B w w')(hd:a'.defers=a.defers):Way B C0 w0 d D a' w':=by
 obtain ⟨Ds,h1,h2⟩:=h.ds
 exact ⟨h.le.trans hl,h.keep.trans hk,Ds,hd.trans h1,h2.nodup,fun D hD=>⟨(h2.there D hD).1,hk.sys _ _ (h2.there D hD).2⟩⟩
theorem Way.start{B:Base}{C:Cx}{w:World}{d:List Deferred}{a:Act}(hd:a.defers=d):Way B C w d C a w:=
 ⟨.refl _,.refl _ _,[],by simpa using hd,List.nodup_nil,fun D hD=>by cases hD⟩
def Post(ks:List Nat)(n:Nat)(B:Base)(C0:Cx)(w0:World)(d:List Deferred)(Q:MPost)(e:Exit)(a:Act)(w:World):Prop:=
 ∃ x env fr h C,MX.is x e∧Q x env fr h∧StOK ks n B C env fr h a w∧Way B C0 w0 d C a w
section
variable {P:Program} {B:Base} {C D:Cx} {h:Heap} {w w':World} {G:Gam} {a:Act}
def Base.withRc(B:Base)(l b:Nat)(r:Loop)(C:Cx):Base:={ B with rc:=fun k=>if k=l then some (b,r)else B.rc k,cx:=C }
theorem lp_ready(r:Loop)(h1:r.state=.ready)(h2:r.pending=none):({ r with state:=lpState false .normal,pending:=MX.normal.code }:Loop)=r:=by
 cases r; simp only at h1 h2; subst h1 h2; rfl
theorem inv_lp(hd:Inv B C (h++[.dead]) w){b:Nat}{r:Loop}(hbl:C.bl h.length=some b)(hB:B≤b)(hob:w.heap[b]?=some (.loop r))(h1:r.state=.ready)(h2:r.pending=none)
  (hrc:∀ l x,B.rc l=some x→l<h.length) (hfree:∀ (l:Nat) blk,h[l]?=some blk→blockOf C l blk≠some b):Inv (B.withRc h.length b r C) C (h++[.lp false .normal]) w:=by
 have old:∀ (l:Nat) k,(h++[Blk.lp false .normal])[l]?=some k→(l<h.length∧h[l]?=some k∧(h++[.dead])[l]?=some k)∨(l=h.length∧k=.lp false .normal):=by
  intro l k hk;by_cases hl:l<h.length
  ·rw [List.getElem?_append_left hl]at hk; exact .inl ⟨hl,hk,by rw [List.getElem?_append_left hl]; exact hk⟩
  ·rw [List.getElem?_append_right (by omega)]at hk
   have:l-h.length=0:=by
    rcases Nat.eq_zero_or_pos (l-h.length)with e | e
    ·exact e
    ·rw [List.getElem?_eq_none (by simp; omega)]at hk; cases hk
   rw [this]at hk; simp at hk;exact .inr ⟨by omega,hk.symm⟩
 have hnew:blockOf C h.length (.lp false .normal)=some b:=by simp [blockOf,hbl]
 refine ⟨hd.im,hd.one,fun l k hk=>?_,fun l l' k k' b' g1 g2 g3 g4=>?_,fun l hl=>hd.fr l (by simpa using hl),fun l ne tg sz ver rows wr hk v hv=>?_,hd.hB,hd.low,hd.gl,hd.tb,fun l x hx=>?_,.refl _⟩
 ·rcases old l k hk with ⟨a1,a2,a3⟩ | ⟨rfl,rfl⟩
  ·have:=hd.ok l k a3
   cases k with
   | lp bz x=>
    obtain ⟨b',r',q1,q2,q3,q4⟩:=this;exact ⟨b',r',q1,q2,by simp only [Base.withRc]; rw [if_neg (by omega)]; exact q3,q4⟩
   | _=>exact this
  ·exact ⟨b,r,hbl,hB,by simp [Base.withRc],by rw [lp_ready r h1 h2]; exact hob⟩
 ·rcases old l k g1 with ⟨a1,a2,a3⟩ | ⟨rfl,rfl⟩ <;> rcases old l' k' g2 with ⟨b1,b2,b3⟩ | ⟨rfl,rfl⟩
  ·exact hd.inj l l' k k' b' a3 b3 g3 g4
  ·rw [hnew]at g4; injection g4 with g4; subst g4; exact absurd g3 (hfree l k a2)
  ·rw [hnew]at g3; injection g3 with g3; subst g3; exact absurd g4 (hfree l' k' b2)
  ·rfl
 ·rcases old l _ hk with ⟨a1,a2,a3⟩ | ⟨_,e⟩
  ·exact hd.fv l ne tg sz ver rows wr a3 v hv
  ·cases e
 ·simp only [Base.withRc]at hx
  split at hx
  ·rename_i e; subst e; simp
  ·have:=hrc l x hx; simp; omega
theorem inv_drop{l b:Nat}{r:Loop}{C1:Cx}(hd:Inv (B.withRc l b r C1) C h w)(hl:h[l]?=some .dead)(hcx:B.cx.Le C):Inv B C h w:=by
 refine ⟨hd.im,hd.one,fun k blk hk=>?_,hd.inj,hd.fr,hd.fv,hd.hB,hd.low,hd.gl,hd.tb,fun k x hx=>?_,hcx⟩
 ·have:=hd.ok k blk hk
  cases blk with
  | lp bz x=>
   obtain ⟨b',r',q1,q2,q3,q4⟩:=this;have hne:k≠l:=fun e=>by subst e; rw [hl]at hk; cases hk
   simp only [Base.withRc]at q3;rw [if_neg hne]at q3;exact ⟨b',r',q1,q2,q3,q4⟩
  | _=>exact this
 ·by_cases e:k=l
  ·subst e; exact (List.getElem?_eq_some_iff.1 hl).1
  ·exact hd.rcl k x (by simp only [Base.withRc]; rw [if_neg e]; exact hx)
theorem lp_turn(hi:Inv B C h w){l b:Nat}{bz:Bool}{x:MX}{r:Loop}(hl:h[l]?=some (.lp bz x))(hb:C.bl l=some b)(hr:B.rc l=some (b,r))(bz':Bool)(x':MX) :
  Inv B C (h.set l (.lp bz' x')) (World.put w b (.loop { r with state:=lpState bz' x',pending:=x'.code }))∧Keep B w (World.put w b (.loop { r with state:=lpState bz' x',pending:=x'.code })):=by
 obtain ⟨b2,r2,q1,q2,q3,q4⟩:=hi.ok l _ hl
 rw [hb]at q1; injection q1 with q1; subst q1
 rw [hr]at q3; injection q3 with q3; injection q3 with _ q3; subst q3
 exact ⟨turn_obj hi hl hb (by simp [blockOf,hb]) q4 (fun c e f=>by simp) q2 ⟨b,r,hb,q2,hr,put_same q4⟩ (fun b' hb'=>by simp [blockOf,hb]at hb'; exact hb'.symm) (fun _ _ _ _=>by simp),put_below q2 q4 (fun c=>by simp)⟩
theorem lp_end(hi:Inv B C h w){l b:Nat}{bz:Bool}{x:MX}{r:Loop}(hl:h[l]?=some (.lp bz x))(hb:C.bl l=some b)(_hr:B.rc l=some (b,r))(o:Loop) :
  Inv B C (h.set l .dead) (World.put w b (.loop o))∧Keep B w (World.put w b (.loop o)):=by
 obtain ⟨b2,r2,q1,q2,q3,q4⟩:=hi.ok l _ hl
 rw [hb]at q1; injection q1 with q1; subst q1
 exact ⟨turn_obj hi hl hb (by simp [blockOf,hb]) q4 (fun c e f=>by simp) q2 trivial (fun b' hb'=>by simp [blockOf]at hb') (fun _ _ _ _=>by simp),put_below q2 q4 (fun c=>by simp)⟩
theorem lp_rec(hi:Inv B C h w){l b:Nat}{bz:Bool}{x:MX}{r:Loop}(hl:h[l]?=some (.lp bz x))(hr:B.rc l=some (b,r)):C.bl l=some b∧B≤b∧w.heap[b]?=some (.loop { r with state:=lpState bz x,pending:=x.code }):=by
 obtain ⟨b2,r2,q1,q2,q3,q4⟩:=hi.ok l _ hl
 rw [hr]at q3; injection q3 with q3; injection q3 with q5 q3; subst q5 q3
 exact ⟨q1,q2,q4⟩
theorem putPs_some:∀ (ps:List Nat) (vs:List AV) (fr:List (Nat×AV)) (t:Nat),(lkp t (putPs ps vs fr)).isSome=(lkp t fr).isSome
 | [],vs,fr,t=>by simp [putPs]
 | p::ps,[],fr,t=>by simp [putPs]
 | p::ps,v::vs,fr,t=>by
  simp only [putPs,putPs_some ps vs,lkp_upd];by_cases e:t=p
  ·simp [e]
  ·simp [e]
def RelF(C:Cx)(fr:List (Nat×AV))(tm:Array Value):Prop:=∀ t x,lkp t fr=some x→∃ u,tm[t]?=some u∧Rel C x u
theorem put_rel:∀ (ps:List Nat) (vs:List AV) (us:List Value) (fr:List (Nat×AV)) (tm:Array Value),RelL C vs us→RelF C fr tm→
  RelF C (putPs ps vs fr) ((ps.zip us).foldl (fun t q=>t.setIfInBounds q.1 q.2) tm)
 | [],vs,us,fr,tm,_,hf=>by simpa [putPs] using hf
 | p::ps,[],us,fr,tm,hr,hf=>by
  cases us with
  | nil=>simpa [putPs] using hf
  | cons _ _=>simp [RelL]at hr
 | p::ps,v::vs,us,fr,tm,hr,hf=>by
  obtain ⟨u,us',rfl,h1,h2⟩:=hr.inv_cons;simp only [putPs,List.zip_cons_cons,List.foldl_cons];refine put_rel ps vs us' _ _ h2 fun t x hx=>?_
  rw [lkp_upd]at hx;by_cases e:t=p
  ·subst e
   simp only [if_true,Option.map_eq_some_iff]at hx;obtain ⟨y,hy,rfl⟩:=hx;obtain ⟨z,hz,_⟩:=hf t y hy;exact ⟨u,by simp [(Array.getElem?_eq_some_iff.1 hz).1],h1⟩
  ·rw [if_neg e]at hx
   obtain ⟨z,hz,k⟩:=hf t x hx;exact ⟨z,by rw [Array.getElem?_setIfInBounds_ne (fun q=>e q.symm)]; exact hz,k⟩
theorem fold_size:∀ (l:List (Nat×Value)) (tm:Array Value),(l.foldl (fun t q=>t.setIfInBounds q.1 q.2) tm).size=tm.size
 | [],_=>rfl
 | q::l,tm=>by simp [List.foldl_cons,fold_size l]
theorem round_start{ks:List Nat}{n:Nat}{env fr:List (Nat×AV)}{h2:Heap}{w2:World}(hst:StOK ks n B C env fr h a w)(hle:C.Le D){B':Base}(hi:Inv B' D h2 w2){ps:Array Tmp}{args:List AV}{vals:Array Value}(hr:RelL D args vals.toList) :
  StOK ks n B' D [] (putPs ps.toList args fr) h2 { tmps:=(ps.zip vals).foldl (fun t (p,v)=>t.setIfInBounds p v) a.tmps,defers:=[] } w2:=by
 have hf:RelF C fr a.tmps:=fun t x hx=>by
  have hc:=hst.clear.rel t x (show lkp t fr=some x from hx);exact hc
 have hf':RelF D fr a.tmps:=fun t x hx=>let ⟨u,k1,k2⟩:=hf t x hx; ⟨u,k1,k2.mono hle⟩
 have hfold:(ps.zip vals).foldl (fun t (p,v)=>t.setIfInBounds p v) a.tmps=(ps.toList.zip vals.toList).foldl (fun t q=>t.setIfInBounds q.1 q.2) a.tmps:=by
  rw [← Array.foldl_toList,Array.toList_zip]
 refine ⟨hi,fun t x hx=>?_,fun t v hx=>by simp [lkp]at hx,fun t v hx=>?_,?_⟩
 ·have hx':lkp t (putPs ps.toList args fr)=some x:=hx
  show ∃ u,((ps.zip vals).foldl (fun t (p,v)=>t.setIfInBounds p v) a.tmps)[t]?=some u∧Rel D x u
  rw [hfold];exact put_rel ps.toList args vals.toList fr a.tmps hr hf' t x hx'
 ·have:(lkp t fr).isSome=true:=by rw [← putPs_some ps.toList args fr t,hx]; rfl
  obtain ⟨y,hy⟩:=Option.isSome_iff_exists.1 this;exact hst.keys t y hy
 ·show n≤((ps.zip vals).foldl (fun t (p,v)=>t.setIfInBounds p v) a.tmps).size
  rw [hfold,fold_size]; exact hst.size
theorem y_exists{T:List AV→Heap→(MX→Heap→Prop)→Prop}(k0:Nat)(h1:∀ {args:List AV} {h:Heap} {K:MX→Heap→Prop},T args h K→∃ x h',K x h'∧h'[k0]?=some (.lp false x)∧∀ K':MX→Heap→Prop,K' x h'→T args h K')
  (h2:∀ {args:List AV} {h:Heap} {K K':MX→Heap→Prop},T args h K→T args h K'→T args h fun x h=>K x h∧K' x h) :
  ∃ Y:Nat→List AV→Heap→Option (AV×Heap),
   (∀ k args h v h',Y k args h=some (v,h')→k=k0∧∃ x,v=.bool x.nrm∧T args h (fun x' h''=>x'=x∧h''=h'))∧
   (∀ args h K,T args h K→∃ x h',Y k0 args h=some (.bool x.nrm,h')∧K x h'∧h'[k0]?=some (.lp false x)):=by
 classical
 have key:∀ (args:List AV) (h:Heap),∃ r:Option (MX×Heap),(∀ x h',r=some (x,h')→T args h (fun x' h''=>x'=x∧h''=h'))∧(∀ K,T args h K→∃ x h',r=some (x,h')):=fun args h=>by
  by_cases q:∃ x h',T args h (fun x' h''=>x'=x∧h''=h')
  ·obtain ⟨x,h',hx⟩:=q
   exact ⟨some (x,h'),fun x2 h2 e=>by simp only [Option.some.injEq,Prod.mk.injEq]at e; obtain ⟨rfl,rfl⟩:=e; exact hx,fun K _=>⟨x,h',rfl⟩⟩
  ·exact ⟨none,(fun x h' e=>by cases e),fun K hK=>by
    obtain ⟨x,h',_,_,k3⟩:=h1 hK;exact absurd ⟨x,h',k3 _ ⟨rfl,rfl⟩⟩ q⟩
 obtain ⟨R,hR⟩:∃ R:List AV→Heap→Option (MX×Heap),∀ args h,(∀ x h',R args h=some (x,h')→T args h (fun x' h''=>x'=x∧h''=h'))∧(∀ K,T args h K→∃ x h',R args h=some (x,h')):=
  ⟨fun args h=>(key args h).choose,fun args h=>(key args h).choose_spec⟩
 refine ⟨fun k args h=>if k=k0 then (R args h).map fun r=>(.bool r.1.nrm,r.2)else none,fun k args h v h' hv=>?_,fun args h K hK=>?_⟩
 ·simp only at hv
  split at hv
  ·rename_i q
   simp only [Option.map_eq_some_iff,Prod.mk.injEq]at hv;obtain ⟨⟨x,h2'⟩,e1,rfl,rfl⟩:=hv;exact ⟨q,x,rfl,(hR args h).1 _ _ e1⟩
  ·cases hv
 ·obtain ⟨x,h',hx⟩:=(hR args h).2 K hK
  refine ⟨x,h',by simp [hx],?_⟩
  obtain ⟨x2,h2',⟨g1,g2,g3⟩,g4,_⟩:=h1 (h2 hK ((hR args h).1 _ _ hx));rw [← g2,← g3];exact ⟨g1,g4⟩
theorem runY_of{F:RdF}{T:List AV→Heap→(MX→Heap→Prop)→Prop}{k:Nat}{Q:MX→Heap→Prop}{y:List AV→Heap→Option (AV×Heap)}
  (hy:∀ args h K,T args h K→∃ x h',y args h=some (.bool x.nrm,h')∧K x h'∧h'[k]?=some (.lp false x)) :
  ∀ (N j:Nat) (h:Heap),rgM F T k Q N j h→∃ h' x,runYN F y N j h h'∧h'[k]?=some (.lp false x)∧Q x (h'.set k .dead)
 | 0,_,_,hq=>hq.elim
 | N+1,j,h,hq=>by
  simp only [rgM]at hq;split at hq
  ·exact hq.elim
  ·rename_i h1 hF
   exact ⟨h1,.normal,by simp only [runYN,hF],hq.1,hq.2⟩
  ·rename_i args h1 hF
   obtain ⟨x,h2,k1,k2,k3⟩:=hy _ _ _ hq;cases x with
   | normal=>
    obtain ⟨h3,x3,g1,g2,g3⟩:=runY_of hy N (j+1) h2 k2;exact ⟨h3,x3,by simp only [runYN,hF,k1,MX.nrm]; exact g1,g2,g3⟩
   | exit i=>exact ⟨h2,.exit i,by simp only [runYN,hF,k1,MX.nrm],k3,k2⟩
   | ret=>exact ⟨h2,.ret,by simp only [runYN,hF,k1,MX.nrm],k3,k2⟩
end
end Go.Proofs.YtpefhfiehfkocaaGreatDoor
namespace Go.Proofs.YtpefhfiehfkocaaGreatDoor
open Go.RowKit
section
variable {P:Program} {B:Base} {C D:Cx} {h:Heap} {w w':World} {G:Gam} {a:Act}
def Snd(P:Program)(G:Gam)(ks ow:List Nat)(n:Nat)(top:Bool)(ro:Option Nat)(c:Code):Prop:=
 ∀ (B:Base),GamB P B G→∀ (dl:List (List Nat)) (C0:Cx) (w0:World) (d:List Deferred) (Q:MPost) (env fr:List (Nat×AV)) (h:Heap) (C:Cx) (a:Act) (w:World),StOK ks n B C env fr h a w→Way B C0 w0 d C a w→
  wpM G (compC0 top P B.gv ks n ow c dl).1 Q env fr h→c.wpIn (fR ro) 0 P (Post ks n B C0 w0 d Q) a w
theorem yield_ok{ks ow:List Nat}{n:Nat}{_g:Operand}{ps:Array Tmp}{asg bd:Code}(ha:∀ l,Snd P G ks ow n false (some l) asg)(hb:∀ l,Snd P G ks ow n false (some l) bd){B1:Base}(hG:GamB P B1 G){gv:Gv}(hgv1:B1.gv=gv){C1:Cx}(hcx:B1.cx=C1){k b:Nat}{r:Loop}(hrc:B1.rc k=some (b,r))
  (hr1:r.state=.ready) (hr2:r.pending=none) (hps:r.params=ps) (hra:r.assign=asg) (hrb:r.body=bd) {env fr:List (Nat×AV)} {h:Heap} {w:World} (hst:StOK ks n B C env fr h a w) (hle:C.Le C1) (htm:r.tmps=a.tmps) {dl dl':List (List Nat)}
  {Y:Nat→List AV→Heap→Option (AV×Heap)} (hY:∀ k' args h v h',Y k' args h=some (v,h')→k'=k∧∃ x:MX,v=.bool x.nrm∧roundM (wpM G (compC0 false P gv ks n ow asg dl).1) (wpM G (compC0 false P gv ks n ow bd dl').1) ps.toList fr k args h (fun x' h''=>x'=x∧h''=h')):YOK P B1 Y:=by
 intro B' hup k' args hh v h' hYe C' W b' vals hbl hinv hrelv
 obtain ⟨rfl,x,rfl,q1,q2,q3⟩:=hY _ _ _ _ _ hYe
 have hG':=hG.up hup
 have hupk:B'.rc k'=some (b,r):=by obtain ⟨rc,cx,rfl,h1,h2⟩:=hup; exact h1 _ _ hrc
 have hcle:C1.Le C':=by
  have:=hinv.cle;obtain ⟨rc,cx,rfl,h1,h2⟩:=hup;rw [hcx]at h2;exact h2.trans this
 have hgv:B'.gv=gv:=by obtain ⟨rc,cx,rfl,_,_⟩:=hup; exact hgv1
 obtain ⟨p1,p2,p3⟩:=lp_rec hinv q1 hupk
 rw [hbl]at p1; injection p1 with p1; subst p1
 rw [lp_ready r hr1 hr2]at p3
 have hsz:vals.size=r.params.size:=by
  have h1:=hrelv.1;have h2:args.length=ps.toList.length:=q2;rw [hps]; simp at h1 h2; omega
 refine ⟨r.fn,_,asg,bd,by rw [run_yield p3 hsz,hra,hrb],?_⟩
 refine roundIn_of_wpIn (F:=Fence.wide) (n:=0) trivial ?_
 have hstart:=round_start hst (hle.trans hcle) hinv (ps:=ps) hrelv
 rw [hps,htm]
 have hA:=ha b' B' hG' dl C' W [] _ [] _ hh C' _ W hstart (.start rfl) (by rw [hgv]; exact q3)
 refine wpIn_mono hA fun e a1 W1 hp=>?_
 obtain ⟨x1,env1,fr1,h1,C2,m1,m2,m3,m4⟩:=hp
 cases x1 with
 | exit i=>exact m2.elim
 | ret=>exact m2.elim
 | normal=>
  cases e <;> simp only [MX.is]at m1
  obtain ⟨m2,m5⟩:=m2;obtain ⟨s1,s2,s3⟩:=lp_rec m3.inv m2 hupk;have s4:=run_beginRound (P:=P) s3 (by show lpState false .normal=.ready; rfl);refine ⟨_,s4,?_⟩
  have hturn:=lp_turn m3.inv m2 s1 hupk true .normal;have hst2:StOK ks n B' C2 [] fr1 (h1.set k' (.lp true .normal)) a1 (World.put W1 b' (.loop { r with state:=lpState true .normal,pending:=MX.normal.code })):=by
   have hc:=m3.clear;exact ⟨hturn.1,hc.rel,hc.sep,hc.keys,hc.size⟩
  have hway2:=m4.step (.refl _) hturn.2 (a':=a1) rfl;have hB:=hb b' B' hG' dl' C' W [] _ [] fr1 _ C2 a1 _ hst2 hway2 (by rw [hgv]; exact m5);refine wpIn_mono hB fun e a2 W3 hp=>?_
  obtain ⟨x2,env2,fr2,h2,C3,n1,n2,n3,n4⟩:=hp;obtain ⟨n2,rfl,rfl⟩:=n2;obtain ⟨t1,t2,t3⟩:=lp_rec n3.inv n2 hupk;have hend:=fun jump=>run_endRound (P:=P) jump t3
  have hturn2:=lp_turn n3.inv n2 t1 hupk false x2;have fin:∀ (e:Option Code),x2.code=e→∃ v w',(Instr.endRound b' e).run P W3=.ok v w'∧∃ u D,Ending.returned v=.returned u∧C'.Le D∧Inv B' D (h2.set k' (.lp false x2)) w'∧Rel D (.bool x2.nrm) u∧Keep B' W w':=by
   rintro e rfl
   refine ⟨_,_,hend x2.code,_,C3,rfl,n4.le,hturn2.1,?_,n4.keep.trans hturn2.2⟩
   cases x2 <;> exact .bool _
  cases x2 with
  | normal=>cases e <;> simp only [MX.is]at n1; exact fin none rfl
  | exit i=>cases e <;> simp only [MX.is]at n1; subst n1; exact fin (some (.exit i)) rfl
  | ret=>cases e <;> simp only [MX.is]at n1; exact fin (some .ret) rfl
theorem rgf_sound{ks ow:List Nat}{n:Nat}{g:Operand}{ps:Array Tmp}{asg bd:Code}(ha:∀ l,Snd P G ks ow n false (some l) asg)(hb:∀ l,Snd P G ks ow n false (some l) bd):Snd P G ks ow n true none (.rangeFunc g ps asg bd):=by
 intro B hG dl C0 w0 d Q env fr h C a w hst hway hq
 simp only [compC0,if_true]at hq
 split at hq
 ·rename_i g' hg'
  obtain ⟨hdet,hq⟩:((compC0 false P B.gv ks n ow asg dl).1.det&&(compC0 false P B.gv ks n ow bd (compC0 false P B.gv ks n ow asg dl).2).1.det)=true∧wpM G (.rgf g' ps.toList (compC0 false P B.gv ks n ow asg dl).1 (compC0 false P B.gv ks n ow bd (compC0 false P B.gv ks n ow asg dl).2).1) Q env fr h:=by
   dsimp only at hq;split at hq
   ·rename_i hd; exact ⟨hd,hq⟩
   ·exact hq.elim
  simp only [Bool.and_eq_true]at hdet;obtain ⟨hda,hdb⟩:=hdet;simp only [wpM]at hq;split at hq
  ·rename_i f caps hgv
   split at hq
   ·rename_i F hF
    obtain ⟨N,hr⟩:=hq;have hrel:=eval_at_rel hst.inv hst.rel hg' hgv;have hit:ItOK P B.gv f F:=hG.ok f _ hF;have hen:=hG.enters f _ hF;generalize hev:a.eval g=gval at hrel;cases hrel with
    | fn _ _ vs hl hh=>
     have hcaps:RelL C caps vs.toList:=⟨by simpa using hl,fun i c v hc hv=>hh i c v hc (by simpa using hv)⟩;refine wpIn_rangeFunc fun fn hfn=>?_
     obtain ⟨r,hrec⟩:∃ r:Loop,r={ state:=.ready,pending:=none,fn,tmps:=a.tmps,params:=ps,assign:=asg,body:=bd,defers:=w.heap.size }:=⟨_,rfl⟩
     obtain ⟨w1,hw1⟩:∃ w1,(w.alloc (.deferred (some []))).alloc (.loop r)=w1:=⟨_,rfl⟩
     have hs1:w1.heap.size=w.heap.size+2:=by rw [← hw1]; simp
     have hL1:w1.heap[w.heap.size+1]?=some (.loop r):=by
      rw [← hw1]; have:=World.alloc_heap_new (w.alloc (.deferred (some []))) (.loop r); rwa [World.size_alloc]at this
     have hK1:w1.heap[w.heap.size]?=some (.deferred (some [])):=by
      rw [← hw1]; exact (Below.heap_alloc _ _ _ (by simp)).trans (World.alloc_heap_new w _)
     have hbw:Below w.heap.size w w1:=by rw [← hw1]; exact ((Below.refl _ w).alloc (Nat.le_refl _) _).alloc (by simp) _
     have hn:=(hst.inv.fr h.length (Nat.le_refl _)).1;have hext:=ext_addBl (w:=w) (w.heap.size+1) hn;have hle1:=hext.le;have hbl1:(C.addBl h.length (w.heap.size+1)).bl h.length=some (w.heap.size+1):=by simp [Cx.addBl]
     have hd:Inv B (C.addBl h.length (w.heap.size+1)) (h++[.dead]) w1:=hst.inv.add hext hbw (fun b o u x=>im_grow hst.inv hbw b o u x) (fun b o u x=>hst.inv.one b o u x) (blk:=.dead) trivial (fun b hb=>by simp [blockOf]at hb) (fun l hl=>by simp [Cx.addBl,hl]) (fun l v hl=>rfl) (fun ne tg sz ver rows wr e=>by cases e);have hi1:=inv_lp hd hbl1 (by have:=hst.inv.hB; omega) hL1 (by rw [hrec]) (by rw [hrec]) hst.inv.rcl (fun l blk hb hbo=>by
      rw [blockOf_ext (hst.inv.ok l blk hb) hle1]at hbo;have:=blockOf_lt (hst.inv.ok l blk hb) hbo;omega)
     have hup:B.Up (B.withRc h.length (w.heap.size+1) r (C.addBl h.length (w.heap.size+1))):=⟨_,_,rfl,fun l x hx=>by
      have:=hst.inv.rcl l x hx;show (if l=h.length then some (w.heap.size+1,r)else B.rc l)=some x
      rw [if_neg (by omega)]; exact hx,hst.inv.cle.trans hle1⟩
     obtain ⟨B1,hB1⟩:∃ B1,B1=B.withRc h.length (w.heap.size+1) r (C.addBl h.length (w.heap.size+1)):=⟨_,rfl⟩
     have hB1gv:B1.gv=B.gv:=by rw [hB1]; rfl
     have hB1cx:B1.cx=C.addBl h.length (w.heap.size+1):=by rw [hB1]; rfl
     have hB1rc:B1.rc h.length=some (w.heap.size+1,r):=by rw [hB1]; simp [Base.withRc]
     have hB1n:(B1:Nat)=B:=by rw [hB1]; rfl
     rw [← hB1]at hup hi1;have hG1:=hG.up hup;obtain ⟨Y,hY1,hY2⟩:=y_exists (T:=roundM (wpM G (compC0 false P B.gv ks n ow asg dl).1) (wpM G (compC0 false P B.gv ks n ow bd (compC0 false P B.gv ks n ow asg dl).2).1) ps.toList fr h.length) h.length
      (fun hq=>round_at (wpM_one _ hda) (wpM_one _ hdb) hq) (fun hq hq'=>round_both (wpM_one _ hda) (wpM_one _ hdb) (wpM_both _ hda) (wpM_both _ hdb) hq hq')
     obtain ⟨h',x,hrun,hlp,hQ⟩:=runY_of (k:=h.length) (Q:=fun x h=>Q x env fr h) hY2 N 0 _ hr;have hyok:YOK P B1 Y:=
      yield_ok (_g:=g) (ps:=ps) ha hb hG1 hB1gv hB1cx (k:=h.length) (b:=w.heap.size+1) (r:=r) hB1rc (by rw [hrec]) (by rw [hrec]) (by rw [hrec]) (by rw [hrec]) (by rw [hrec]) hst hle1 (by rw [hrec]) hY1
     have hcall:=hit B1 _ _ h' w1 caps vs h.length (w.heap.size+1) N Y hB1gv hi1 (hcaps.mono hle1) hbl1 hyok hrun;refine ⟨w.heap.size+1,[mark w.heap.size],w1,{ target:=.fn (.func f) vs,args:=#[.func (.yield (w.heap.size+1)) #[] #[]] },w1,f,#[.func (.yield (w.heap.size+1)) #[] #[]]++vs,w1,?_,?_,?_,?_,?_,?_⟩
     ·rw [← hw1,hrec]; exact run_enterLoop_outer _ _ _ _ _
     ·simp only [resolve,hev]
      simp [go_sem]
     ·exact fun _ _=>trivial
     ·simp only [invoke]; exact hen _ _
     ·exact fR_depth
     ·refine callsIn_fR (hcall.mono ?_)
      rintro e w2 ⟨v,D',rfl,e1,e2,e3⟩
      obtain ⟨t1,t2,t3⟩:=lp_rec e2 hlp hB1rc;have hend:=run_endLoop (P:=P) t3 (by cases x <;> simp [lpState,MX.code]);have hfin:=lp_end e2 hlp t1 hB1rc { r with state:=.exhausted,pending:=x.code };have hfin1:=hfin.1;rw [hB1]at hfin1;have hinv4:=inv_drop hfin1 (by rw [List.getElem?_set_self (List.getElem?_eq_some_iff.1 hlp).1]) ((hst.inv.cle.trans hle1).trans e1);refine ⟨x.code,_,hend,?_⟩
      have hkeep:Keep B w1 (World.put w2 (w.heap.size+1) (.loop { r with state:=.exhausted,pending:=x.code })):=by rw [← hB1n]; exact Keep.trans e3 hfin.2
      have hkeep0:Keep B w w1:=.grown hbw hst.inv.hB;have post:∀ (e:Exit),MX.is x e→Post ks n B C0 w0 d Q e { a with defers:=[mark w.heap.size]++a.defers } (World.put w2 (w.heap.size+1) (.loop { r with state:=.exhausted,pending:=x.code })):=fun e he=>by
       refine ⟨x,env,fr,h'.set h.length .dead,D',he,hQ,⟨hinv4,fun t y hy=>?_,hst.sep,hst.keys,hst.size⟩,⟨hway.le.trans (hle1.trans e1),hway.keep.trans (hkeep0.trans hkeep),?_⟩⟩
       ·obtain ⟨u,k1,k2⟩:=hst.rel t y hy
        exact ⟨u,k1,k2.mono (hle1.trans e1)⟩
       ·obtain ⟨Ds,hDs,hM⟩:=hway.ds
        refine ⟨w.heap.size::Ds,by simp [hDs],?_,fun D hD=>?_⟩
        ·refine List.nodup_cons.2 ⟨fun hm=>?_,hM.nodup⟩
         have:=heap_lt (hM.there _ hm).2;omega
        ·rcases List.mem_cons.1 hD with rfl | hD
         ·exact ⟨hway.keep.below.size,hkeep.sys _ _ hK1⟩
         ·exact ⟨(hM.there D hD).1,hkeep.sys _ _ (hkeep0.sys _ _ (hM.there D hD).2)⟩
      cases x with
      | normal=>exact post .normal trivial
      | exit i=>exact wpIn_exit (post (.exit i) rfl)
      | ret=>exact wpIn_ret (post .ret trivial)
   ·exact hq.elim
  ·exact hq.elim
 ·exact hq.elim
theorem wpM_bothL{Q:MPost}{env fr:List (Nat×AV)}:∀ {cs:List MC},wpM G (bothL cs) Q env fr h→∀ c∈cs,wpM G c Q env fr h
 | [],hq,c,hc=>by cases hc
 | [d],hq,c,hc=>by rw [List.mem_singleton.1 hc]; exact hq
 | d::e::cs,hq,c,hc=>by
  simp only [bothL,wpM]at hq;rcases List.mem_cons.1 hc with rfl | hc
  ·exact hq.1
  ·exact wpM_bothL hq.2 c hc
theorem drawC_any{ro:Option Nat}(hG:GamB P B G){ks ow:List Nat}{n:Nat}{ops:Array Oper}{Q:Exit→Act→World→Prop}{Qm:MPost}{env fr:List (Nat×AV)}(hst:StOK ks n B C env fr h a w)
  (hq:wpM G (drawC P B.gv ks n ow ops) Qm env fr h)
  (hQ:∀ env' fr' h' D a' w',Qm .normal env' fr' h'→C.Le D→StOK ks n B D env' fr' h' a' w'→a'.defers=a.defers→Keep B w w'→Q .normal a' w'):wpAnyIn (fR ro) 0 P .any ops Q ops.size (Array.replicate ops.size false) a { w with drawn:=w.drawn+1 }:=by
 unfold drawC at hq
 split at hq
 ·rename_i hok
  simp only [wpM]at hq;split at hq
  ·rename_i env' fr' h' hrun
   exact draw_any hG hst.clear hok hrun fun D a' w' k1 k2 k3 k4=>hQ env' fr' h' D a' w' hq k1 k2 k3 k4
  ·exact hq.elim
 ·split at hq
  ·rename_i hok
   exact early_any hG hst.clear hok hq fun env' fr' h' D a' w' k0 k1 k2 k3 k4=>hQ env' fr' h' D a' w' k0 k1 k2 k3 k4
  ·exact hq.elim
theorem alts_sound{ro:Option Nat}(hm:P.follows .mixedOrders=true)(hG:GamB P B G){ks ow:List Nat}{n id:Nat}{ops:Array Oper}{Q:Exit→Act→World→Prop}{Qm:MPost}{env fr:List (Nat×AV)}(hst:StOK ks n B C env fr h a w)
  (hq:wpM G (altsC P B.gv ks n ow ops) Qm env fr h)
  (hQ:∀ env' fr' h' D a' w',Qm .normal env' fr' h'→C.Le D→StOK ks n B D env' fr' h' a' w'→a'.defers=a.defers→Keep B w w'→Q .normal a' w'):(Code.region id ops true).wpIn (fR ro) 0 P Q a w:=by
 unfold altsC at hq
 split at hq
 ·rename_i hc
  simp only [Bool.and_eq_true,decide_eq_true_eq]at hc;have hlen:(compReg P B.gv ks n ow ops).length=ops.size:=by simp [compReg]
  refine region_alts hm (lou:=MI.loudAt (compReg P B.gv ks n ow ops)) (all:=louds (compReg P B.gv ks n ow ops)) (fun i hi hl=>List.mem_filter.2 ⟨List.mem_range.2 (by omega),hl⟩) (fun i hi=>by
   obtain ⟨h1,h2⟩:=List.mem_filter.1 hi;exact ⟨by have:=List.mem_range.1 h1; omega,h2⟩) (fun k o ho i hi=>by
   have h1:=List.all_eq_true.1 hc.1 k (List.mem_range.2 (by simpa using (Array.getElem?_eq_some_iff.1 ho).1));rw [show ops.toList[k]?=some o by simpa using ho]at h1;have:=List.all_eq_true.1 h1 i hi;simpa using this) fun σ hσ=>?_
  have h1:=wpM_bothL hq _ (List.mem_map.2 ⟨σ,hσ,rfl⟩);obtain ⟨ord,h2⟩:∃ ord,wpM G (altA P B.gv ks n ow ops σ ord) Qm env fr h:=by
   unfold altC at h1;split at h1
   ·exact ⟨_,h1⟩
   ·exact ⟨_,h1⟩
  unfold altA at h2;split at h2
  ·rename_i hord
   have ho:=ord_of hord;refine ⟨_,ho,?_⟩
   have hsz:(renOps ops ord σ).size=ops.size:=by rw [ren_size]; exact ho.len
   have:=drawC_any (ro:=ro) hG hst h2 (Q:=Q) hQ;rw [hsz]at this;exact this
  ·exact h2.elim
 ·exact hq.elim
theorem rgn_sound{ro:Option Nat}(hG:GamB P B G){ks ow:List Nat}{n id:Nat}{ops:Array Oper}{it:Operand}{o:Oper}(hmn:mapNext ops.toList=some (it,o))(hd:(o.dst.map fun t=>decide (t<n)).getD true=true){g:At}(hg:compAt B.gv it=some g)
  {Q:Exit→Act→World→Prop} {env fr:List (Nat×AV)} (hst:StOK ks n B C env fr h a w) {l:Nat} (hgv:getA (getT [] fr) g=some (.ptr l 0)) {alts:List (AV×Heap)} (ha:mnxAV h l=some alts)
  (hQ:∀ r∈alts,∃ env' fr' h',run G false (compReg P B.gv ks n ow ops).tail (bindR o.dst ((o.dst.map fun t=>ks.contains t).getD false) [] fr (some r))=.ok env' fr' h'∧∀ D a' w',C.Le D→StOK ks n B D env' fr' h' a' w'→a'.defers=a.defers→Keep B w w'→Q .normal a' w') :
  (Code.region id ops false).wpIn (fR ro) 0 P Q a w:=by
 refine wpIn_region ?_
 have hl:=range_get ops
 cases hops:ops.toList with
 | nil=>rw [hops]at hmn; cases hmn
 | cons o' os=>
  rw [hops]at hl hmn;simp only [mapNext]at hmn;split at hmn
  ·rename_i it' hop hgd
   simp only [Option.some.injEq,Prod.mk.injEq]at hmn;obtain ⟨rfl,rfl⟩:=hmn;generalize List.range ops.size=rg at hl;cases rg with
   | nil=>simp at hl
   | cons i rg=>
    simp only [List.map_cons,List.cons.injEq]at hl;obtain ⟨ho,hl⟩:=hl;rw [wpOpsIn_cons];have hst0:=hst.clear;have hrel:=eval_at_rel hst0.inv hst0.rel hg hgv;obtain ⟨r,u,w',hr,k1,k2,k3,k4⟩:=mnx_sound (P:=P) (ty:=o'.type) hst0.inv hrel ha;obtain ⟨env',fr',h',hrun,hQ⟩:=hQ r hr;unfold wpOpIn;simp only [ho];rw [if_pos (by simp [Region.wanted,hgd])];unfold Oper.wpIn;refine ⟨fun _ _=>trivial,?_⟩
    have hsem:Oper.semAt (fR ro).round a.eval o'=execOp a.eval o':=Oper.semAt_eq _ _ _ fun c hcd=>by rw [hop]at hcd; cases hcd
    rw [hsem];have ex:(execOp a.eval o').run P w=.ok (.value u) w':=by
     have e1:execOp a.eval o'=execOp a.eval { o' with op:=.next it' false }:=by rw [← hop]
     rw [e1];have e9:∀ S:Sem Value,S.run P w=.ok u w'→Sem.run P (do pure (Next.value (← S))) w=.ok (.value u) w':=fun S hS=>by simp [hS]
     exact e9 (Instr.next (a.eval it') false o'.type) k1
    rw [ex];show wpOpsIn (fR ro) 0 P ops Q rg (a.put o'.dst u) w'
    have htail:(compReg P B.gv ks n ow ops).tail=os.map (compMI P B.gv ks n ow ops):=by simp [compReg,hops]
    rw [htail]at hrun;generalize hb:bindR o'.dst ((o'.dst.map fun t=>ks.contains t).getD false) [] fr (some r)=r1 at hrun;cases r1 with
    | bad=>rw [run_bad]at hrun; cases hrun
    | ok env1 fr1 h2=>
     obtain ⟨v,h1⟩:=r;obtain ⟨rfl,hsep,hkeys,hget⟩:=bind_get hst0.sep rfl hb;have hd':∀ t,o'.dst=some t→t<n:=fun t ht=>by simpa [ht] using hd
     exact list_sound hG rg os env1 fr1 _ C (a.put o'.dst u) w' hl
      ⟨k2,hst0.rel.put k3 (fun t ht=>Nat.lt_of_lt_of_le (hd' t ht) hst0.size) hget,hsep,hkeys hst0.keys,by rw [put_size']; exact hst0.size⟩ (by rw [put_defers']) (.refl C) k4 hrun hQ
  ·cases hmn
theorem wpM_sound(hm:P.follows .mixedOrders=true){ks ow:List Nat}{n:Nat}:∀ (c:Code) (top:Bool) (ro:Option Nat),(top=true→ro=none)→Snd P G ks ow n top ro c
 | .skip,top,ro,hro=>fun B hG dl C0 w0 d Q env fr h C a w hst hway hq=>wpIn_skip ⟨.normal,env,fr,h,C,trivial,hq,hst,hway⟩
 | .region id ops draw,top,ro,hro=>fun B hG dl C0 w0 d Q env fr h C a w hst hway hq=>by
  simp only [compC0]at hq;split at hq
  ·rename_i it o hmn
   split at hq
   ·exact hq.elim
   ·rename_i hdraw
    obtain rfl:draw=false:=by simpa using hdraw
    split at hq
    ·rename_i g hg
     split at hq
     ·rename_i hd
      simp only [wpM]at hq;split at hq
      ·rename_i l hgv
       split at hq
       ·rename_i alts halts
        refine rgn_sound (ow:=ow) hG hmn hd hg hst hgv halts fun r hr=>?_
        have:=hq r hr;split at this
        ·rename_i env' fr' h' hrun
         exact ⟨env',fr',h',hrun,fun D a' w' k1 k2 k3 k4=>⟨.normal,env',fr',h',D,trivial,this,k2,hway.step k1 k4 k3⟩⟩
        ·exact this.elim
       ·exact hq.elim
      ·exact hq.elim
     ·exact hq.elim
    ·exact hq.elim
  cases draw with
  | false=>
   simp only [Bool.false_eq_true,if_false,wpM]at hq;split at hq
   ·rename_i env' fr' h' hrun
    exact region_sound hG hst.clear hrun fun D a' w' k1 k2 k3 k4=>⟨.normal,env',fr',h',D,trivial,hq,k2,hway.step k1 k4 k3⟩
   ·exact hq.elim
  | true=>
   simp only [if_true]at hq;split at hq
   ·rename_i hok
    simp only [wpM]at hq;split at hq
    ·rename_i env' fr' h' hrun
     exact region_sound_draw hm hG hst.clear hok hrun fun D a' w' k1 k2 k3 k4=>⟨.normal,env',fr',h',D,trivial,hq,k2,hway.step k1 k4 k3⟩
    ·exact hq.elim
   ·split at hq
    ·rename_i hok
     exact region_sound_early hm hG hst.clear hok hq fun env' fr' h' D a' w' k0 k1 k2 k3 k4=>⟨.normal,env',fr',h',D,trivial,k0,k2,hway.step k1 k4 k3⟩
    ·exact alts_sound hm hG hst hq fun env' fr' h' D a' w' k0 k1 k2 k3 k4=>⟨.normal,env',fr',h',D,trivial,k0,k2,hway.step k1 k4 k3⟩
 | .seq x y,top,ro,hro=>fun B hG dl C0 w0 d Q env fr h C a w hst hway hq=>by
  simp only [compC0,wpM]at hq;refine wpIn_seq (wpIn_mono (wpM_sound hm x top ro hro B hG dl C0 w0 d _ env fr h C a w hst hway hq) fun e a' w' hp=>?_)
  obtain ⟨x',env',fr',h',C',k1,k2,k3,k4⟩:=hp;cases x' <;> cases e <;> simp only [MX.is]at k1 <;> (try exact k1.elim)
  ·exact wpM_sound hm y top ro hro B hG _ C0 w0 d Q env' fr' h' C' a' w' k3 k4 k2
  ·exact ⟨.exit _,env',fr',h',C',k1,k2,k3,k4⟩
  ·exact ⟨.ret,env',fr',h',C',trivial,k2,k3,k4⟩
 | .cond c x y,top,ro,hro=>fun B hG dl C0 w0 d Q env fr h C a w hst hway hq=>by
  simp only [compC0]at hq;split at hq
  ·rename_i c' hc
   simp only [wpM]at hq;split at hq
   ·rename_i t ht
    have hr:=eval_at_rel hst.inv hst.rel hc ht;have:=bool_inv hr;cases t with
    | true=>simp only [if_true]at hq; exact wpIn_cond_true this (wpM_sound hm x top ro hro B hG dl C0 w0 d Q env fr h C a w hst hway hq)
    | false=>simp only [Bool.false_eq_true,if_false]at hq; exact wpIn_cond_false this (wpM_sound hm y top ro hro B hG _ C0 w0 d Q env fr h C a w hst hway hq)
   ·exact hq.elim
  ·exact hq.elim
 | .block id x,top,ro,hro=>fun B hG dl C0 w0 d Q env fr h C a w hst hway hq=>by
  simp only [compC0,wpM]at hq;refine wpIn_block (wpIn_mono (wpM_sound hm x top ro hro B hG dl C0 w0 d _ env fr h C a w hst hway hq) fun e a' w' hp=>?_)
  obtain ⟨x',env',fr',h',C',k1,k2,k3,k4⟩:=hp;cases x' <;> cases e <;> simp only [MX.is]at k1 <;> (try exact k1.elim)
  ·exact ⟨.normal,env',fr',h',C',trivial,k2,k3,k4⟩
  ·subst k1
   simp only [blkQ]at k2;simp only [Exit.inBlock];split
   ·rename_i e; rw [if_pos e]at k2; exact ⟨.normal,env',fr',h',C',trivial,k2,k3,k4⟩
   ·rename_i e; rw [if_neg e]at k2; exact ⟨.exit _,env',fr',h',C',rfl,k2,k3,k4⟩
  ·exact ⟨.ret,env',fr',h',C',trivial,k2,k3,k4⟩
 | .loop x,top,ro,hro=>fun B hG dl C0 w0 d Q env fr h C a w hst hway hq=>by
  simp only [compC0,wpM]at hq;obtain ⟨N,hr⟩:=hq;refine wpIn_loop_rounds N ?_
  have hlow:∀ (C0:Cx),C0.Le C→∀ l,h.length≤l→C0.bl l=none∧∀ v,C0.ar l v=none:=fun C0 hle l hl=>by
   have hf:=hst.inv.fr l hl;refine ⟨?_,fun v=>?_⟩
   ·cases hb:C0.bl l with
    | none=>rfl
    | some b=>have:=hle.bl l b hb; rw [hf.1]at this; cases this
   ·cases hb:C0.ar l v with
    | none=>rfl
    | some b=>have:=hle.ar l v b hb; rw [hf.2 v]at this; cases this
  have hlow0:=hlow C0 hway.le;have hlowB:=hlow B.cx hst.inv.cle;have hrc:=hst.inv.rcl;clear hlow;generalize h.length=m at hr hlow0 hlowB hrc;have key:∀ (N:Nat) (env fr:List (Nat×AV)) (h:Heap) (C:Cx) (a:Act) (w:World),StOK ks n B C env fr h a w→Way B C0 w0 d C a w→
    roundsM (wpM G (compC0 top P B.gv ks n ow x dl.tail).1) (dl.headD []) m Q N env fr h→Code.roundsIn (fR ro) 0 P x (Post ks n B C0 w0 d Q) N a w:=by
   intro N;induction N with
   | zero=>intro env fr h C a w _ _ hr; exact hr
   | succ N ih=>
    intro env fr h C a w hst hway hr;obtain ⟨D,d1,d2⟩:=hst.head hrc hlowB hway.le hlow0 (dl.headD []);simp only [roundsM]at hr;refine wpIn_mono (wpM_sound hm x top ro hro B hG dl.tail C0 w0 d _ _ _ _ D a w d2 ⟨d1,hway.keep,hway.ds⟩ hr) fun e a' w' hp=>?_
    obtain ⟨x',env',fr',h',C',k1,k2,k3,k4⟩:=hp;cases x' <;> cases e <;> simp only [MX.is]at k1 <;> (try exact k1.elim)
    ·exact ih env' fr' h' C' a' w' k3 k4 k2
    ·exact ⟨.exit _,env',fr',h',C',k1,k2,k3,k4⟩
    ·exact ⟨.ret,env',fr',h',C',trivial,k2,k3,k4⟩
  exact key N env fr h C a w hst hway hr
 | .exit id,top,ro,hro=>fun B hG dl C0 w0 d Q env fr h C a w hst hway hq=>wpIn_exit ⟨.exit id,env,fr,h,C,rfl,hq,hst,hway⟩
 | .ret,top,ro,hro=>fun B hG dl C0 w0 d Q env fr h C a w hst hway hq=>wpIn_ret ⟨.ret,env,fr,h,C,trivial,hq,hst,hway⟩
 | .label l,top,ro,hro=>fun B hG dl C0 w0 d Q env fr h C a w hst hway hq=>wpIn_label ⟨.normal,env,fr,h,C,trivial,hq,hst,hway⟩
 | .rangeFunc g ps asg bd,top,ro,hro=>by
  cases top with
  | true=>
   have:=hro rfl; subst this;exact rgf_sound (fun l=>wpM_sound hm asg false (some l) (fun e=>by cases e)) (fun l=>wpM_sound hm bd false (some l) (fun e=>by cases e))
  | false=>exact fun B hG dl C0 w0 d Q env fr h C a w hst hway hq=>by simp only [compC0,Bool.false_eq_true,if_false]at hq; exact hq.elim
 | .scope x,top,ro,hro=>fun B hG dl C0 w0 d Q env fr h C a w hst hway hq=>by
  simp only [compC0]at hq;refine wpIn_scope (wpIn_mono (wpM_sound hm x top ro hro B hG dl C0 w0 d _ env fr h C a w hst hway hq) fun e a' w' hp=>?_)
  obtain ⟨x',env',fr',h',C',k1,k2,k3,k4⟩:=hp;cases x' <;> cases e <;> simp only [MX.is]at k1 <;> (try exact k1.elim)
  ·exact ⟨.normal,env',fr',h',C',trivial,k2,k3,k4⟩
  ·exact ⟨.exit _,env',fr',h',C',k1,k2,k3,k4⟩
  ·exact ⟨.ret,env',fr',h',C',trivial,k2,k3,k4⟩
 | .goto _,top,ro,hro=>fun B hG dl C0 w0 d Q env fr h C a w hst hway hq=>hq.elim
 | .refuse _,top,ro,hro=>fun B hG dl C0 w0 d Q env fr h C a w hst hway hq=>hq.elim
end
end Go.Proofs.YtpefhfiehfkocaaGreatDoor
