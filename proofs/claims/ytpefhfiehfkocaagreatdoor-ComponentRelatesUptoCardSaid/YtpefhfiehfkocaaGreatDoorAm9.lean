/- Functions that look at the heap that they are handed,and leave it as it is. Encodings of plain data,contracts over them; running code by contextual rewriting. Maps of plain data. -/
import Derived.Test.YtpefhfiehfkocaaGreatDoorAm8
namespace Go.Proofs.YtpefhfiehfkocaaGreatDoor
open Go.RowKit
theorem rel_back{C D:Cx}(hle:C.Le D){a:AV}{u u':Value}(h:Rel C a u)(h':Rel D a u'):Rel ⟨D.im,C.bl,C.ar⟩ a u':=by
 induction h generalizing u' with
 | bool b=>rw [bool_inv h']; exact .bool b
 | int k n=>rw [int_inv h']; exact .int k n
 | str s=>rw [str_inv h']; exact .str s
 | agg cs vs hs hh ih=>
  cases h' with
  | agg _ vs' hs' hh'=>
   exact .agg _ _ hs' fun i c v' hc hv'=>by
    have hi:i<vs.size:=by rw [← hs]; exact (List.getElem?_eq_some_iff.1 hc).1
    exact ih i c vs[i] hc (by simp [hi]) hle (hh' i c v' hc hv')
 | tup cs vs hs hh ih=>
  cases h' with
  | tup _ vs' hs' hh'=>
   exact .tup _ _ hs' fun i c v' hc hv'=>by
    have hi:i<vs.size:=by rw [← hs]; exact (List.getElem?_eq_some_iff.1 hc).1
    exact ih i c vs[i] hc (by simp [hi]) hle (hh' i c v' hc hv')
 | slnil=>
  cases h' with
  | slnil=>exact .slnil
  | slz a cap=>exact .slz a cap
  | sl _ b o cap size us h1 h2 h3 h4=>exact .sl _ b o cap size us h1 h2 h3 h4
 | slz a cap=>
  cases h' with
  | slnil=>exact .slnil
  | slz a cap=>exact .slz a cap
  | sl _ b o cap size us h1 h2 h3 h4=>exact .sl _ b o cap size us h1 h2 h3 h4
 | tslz a=>
  cases h' with
  | tslnil=>exact .tslnil
  | tslz a=>exact .tslz a
  | tsl _ b o size us h2 h3 h4=>exact .tsl _ b o size us h2 h3 h4
 | sl rows=>
  cases h' with
  | slnil=>exact .slnil
  | slz a cap=>exact .slz a cap
  | sl _ b o cap size us h1 h2 h3 h4=>exact .sl _ b o cap size us h1 h2 h3 h4
 | tsl rows=>
  cases h' with
  | tslnil=>exact .tslnil
  | tslz a=>exact .tslz a
  | tsl _ b o size us h2 h3 h4=>exact .tsl _ b o size us h2 h3 h4
 | tslnil=>
  cases h' with
  | tslnil=>exact .tslnil
  | tslz a=>exact .tslz a
  | tsl _ b o size us h2 h3 h4=>exact .tsl _ b o size us h2 h3 h4
 | nils=>cases h'; exact .nils
 | ownnil l ver k=>
  cases h' with
  | ownnil _ _ k'=>exact .ownnil l ver k
  | own _ _ _ r k' hn=>
   have:=hle.ar _ _ _ k; rw [k']at this; cases this
 | own l ver n r k hn=>
  cases h' with
  | ownnil _ _ k'=>have:=hle.ar _ _ _ k; rw [k']at this; cases this
  | own _ _ _ r' k' hn'=>
   have:=hle.ar _ _ _ k; rw [k']at this;injection this with this; injection this with this; subst this
   exact .own l ver n r' k hn'
 | win l ver lo n r k hn=>
  cases h' with
  | win _ _ _ _ r' k' hn'=>
   have:=hle.ar _ _ _ k; rw [k']at this;injection this with this; injection this with this; subst this
   exact .win l ver lo n r' k hn'
 | ptr l off b k=>
  cases h' with
  | ptr _ _ b' k'=>
   have:=hle.bl _ _ k; rw [k']at this; injection this with this; subst this
   exact .ptr l off b' k
 | fptr row off=>
  cases h' with
  | fptr _ _ b o us h1 h2=>exact .fptr _ _ b o us h1 h2
 | eptr l ver i off r k=>
  cases h' with
  | eptr _ _ _ _ r' k'=>
   have:=hle.ar _ _ _ k; rw [k']at this;injection this with this; injection this with this; subst this
   exact .eptr l ver i off r' k
 | gptr g off=>cases h'; exact .gptr g off
 | nilp=>cases h'; exact .nilp
 | map l b k=>
  cases h' with
  | map _ b' k'=>
   have:=hle.bl _ _ k; rw [k']at this; injection this with this; subst this
   exact .map l b' k
 | nilm=>cases h'; exact .nilm
 | fn f caps vs hs hh ih=>
  cases h' with
  | fn _ _ vs' hs' hh'=>
   exact .fn _ _ _ hs' fun i c v' hc hv'=>by
    have hi:i<vs.size:=by rw [← hs]; exact (List.getElem?_eq_some_iff.1 hc).1
    exact ih i c vs[i] hc (by simp [hi]) hle (hh' i c v' hc hv')
 | mth f a v _ ih=>
  cases h' with
  | mth _ _ v' hh'=>exact .mth f a v' (ih hle hh')
 | nilf=>cases h'; exact .nilf
 | iface t a v _ ih=>
  cases h' with
  | iface _ _ x h=>exact .iface _ _ x (ih hle h)
 | nili=>cases h'; exact .nili
 | yld l b k=>
  cases h' with
  | yld _ b' k'=>
   have:=hle.bl _ _ k; rw [k']at this; injection this with this; subst this
   exact .yld l b' k
 | junk v=>exact .junk _
theorem relL_back{C D:Cx}(hle:C.Le D){as:List AV}{us us':List Value}(h:RelL C as us)(h':RelL D as us'):RelL ⟨D.im,C.bl,C.ar⟩ as us':=by
 refine ⟨h'.1,fun i c v' hc hv'=>?_⟩
 obtain ⟨v,_,k⟩:=h.get hc
 exact rel_back hle k (h'.2 i c v' hc hv')
theorem inv_back{B:Base}{C D:Cx}{h h2:Heap}{w w':World}(hi:Inv B C h w)(hd:Inv B D h2 w')(hle:C.Le D)(hp:∀ (l:Nat) blk,h[l]?=some blk→h2[l]?=some blk):Inv B ⟨D.im,C.bl,C.ar⟩ h w':=by
 have bo:∀ (l:Nat) blk,blockOf (⟨D.im,C.bl,C.ar⟩:Cx) l blk=blockOf C l blk:=fun l blk=>by cases blk <;> rfl
 refine ⟨hd.im,hd.one,fun l blk hb=>?_,fun l l' blk blk' b h1 h2 h3 h4=>hi.inj l l' blk blk' b h1 h2 (by rw [← bo]; exact h3) (by rw [← bo]; exact h4),hi.fr,hi.fv,hd.hB,hd.low,hd.gl,hd.tb,hi.rcl,⟨fun b o u x=>hle.im _ _ _ (hi.cle.im _ _ _ x),hi.cle.bl,hi.cle.ar⟩⟩
 have k:=hi.ok l blk hb
 have k2:=hd.ok l blk (hp l blk hb)
 cases blk with
 | cellsT tg vs=>
  obtain ⟨b,cur,e,h1,h2,h3,h4,h5,h6⟩:=k;obtain ⟨b',cur',e',g1,g2,g3,g4,g5,g6⟩:=k2;have:=hle.bl _ _ h1; rw [g1]at this; injection this with this; subst this
  exact ⟨b',cur',e',h1,g2,g3,g4,relL_back hle h5 g5,g6⟩
 | arrX ne tg sz ver rows wr=>
  rcases k with ⟨k,kr⟩ | ⟨r,cur,h1,k2',k3',k4',k5',k6',k7',k8',k9'⟩
  ·exact .inl ⟨k,kr⟩
  ·rcases k2 with ⟨k2,kr2⟩ | ⟨r',cur',g1,k2,k3,k4,k5,k6,k7,k8,k9⟩
   ·have:=hle.ar _ _ _ h1; rw [k2]at this; cases this
   ·have:=hle.ar _ _ _ h1; rw [g1]at this; injection this with this; injection this with this; subst this
    refine .inr ⟨r',cur',h1,k2,k3,k4,k5,k6,k7,?_,k9⟩
    cases ne with
    | false=>exact k8
    | true=>exact relL_back hle k8' k8
 | map es=>
  obtain ⟨b,ms,ck,h1,k⟩:=k;obtain ⟨b',ms',ck',g1,k2⟩:=k2;have:=hle.bl _ _ h1; rw [g1]at this; injection this with this; subst this
  exact ⟨b',ms',ck',h1,k2⟩
 | iter s pos=>
  obtain ⟨b,h1,k⟩:=k;obtain ⟨b',g1,k2⟩:=k2;have:=hle.bl _ _ h1; rw [g1]at this; injection this with this; subst this
  exact ⟨b',h1,k2⟩
 | lp busy x=>
  obtain ⟨b,r,h1,k⟩:=k;obtain ⟨b',r',g1,k2⟩:=k2;have:=hle.bl _ _ h1; rw [g1]at this; injection this with this; subst this
  exact ⟨b',r',h1,k2⟩
 | mit m n seen last=>
  obtain ⟨b,mo,h1,h2,h3,h4⟩:=k;obtain ⟨b',mo',g1,g2,g3,g4⟩:=k2;have:=hle.bl _ _ h1; rw [g1]at this; injection this with this; subst this
  refine ⟨b',mo',h1,g2,g3,?_⟩
  cases m with
  | none=>exact g4
  | some m=>
   obtain ⟨bm,h5,h6⟩:=h4;obtain ⟨bm',g5,g6⟩:=g4;have:=hle.bl _ _ h5; rw [g5]at this; injection this with this; subst this
   exact ⟨bm',h5,g6⟩
 | dead=>trivial
def lookQ(rs:List RV)(r:AV)(h0:Heap):MPost:=fun x env fr h=>(match x with | .exit _=>False | _=>True)∧∃ v,resAV (getT env fr) h rs=some v∧view h v=some r∧∃ t,freezeAll h (owns v)=h0++t
def lookF(F:List AV→Heap→Option AV):List AV→Heap→Option (AV×Heap):=fun args h=>(F args h).map fun r=>(r,h)
section
variable {P:Program} {G:Gam}
theorem look_of(hm:P.follows .mixedOrders=true){gv:Gv}(hG:GamOK P gv G){f:FuncId}{fn:Func}{c:Code}(hf:P.funcs[f]?=some fn)(hb:fn.body=some c){ks ow:List Nat}{dl:List (List Nat)}{rs:List RV}{mc:MC}
  (hks:ks.all (fun k=>decide (k<fn.ntmps))=true) (hrs:compRVs P fn.results.toList=some rs) (hmc:(compC P gv ks fn.ntmps ow c dl).1=mc) {F:List AV→Heap→Option AV}
  (hF:∀ args h r,F args h=some r→wpM G mc (lookQ rs r h) [] (frInit ks args) h):GenOK P gv f (lookF F):=by
 intro B C h w args r h' vals hgv hi hr hF'
 subst hgv
 simp only [lookF,Option.map_eq_some_iff,Prod.mk.injEq]at hF'
 obtain ⟨r',hF',rfl,rfl⟩:=hF'
 have hst:=start_ok (n:=fn.ntmps) hi hks hr
 have hq:=hF args h r' hF'
 rw [← hmc]at hq
 have hw:=wpM_sound hm c true none (fun _=>rfl) B (GamOK.b hG) dl _ w [] _ [] _ h _ _ w hst (.start rfl) hq
 refine calls_of_post hf hb hi.hB hw fun x env fr h2 C' a' w' k0 k5 k6 k7=>?_
 obtain ⟨k2,v,k3,k4,t,k4'⟩:=k0
 refine ⟨k2,?_⟩
 obtain ⟨u,r1,r2⟩:=resAV_sound k5.inv k5.rel hrs k3
 have hfz:frz h2 v=some (r',freezeAll h2 (owns v)):=by simp [frz,k4]
 obtain ⟨D,d1,d2,d3,d4,d5⟩:=frz_sound k5.inv hfz r1
 have hle:C.Le D:=k6.trans d1
 have hback:=inv_back hi d2 hle (fun l blk hb=>by rw [k4',List.getElem?_append_left (List.getElem?_eq_some_iff.1 hb).1]; exact hb)
 exact ⟨u,r2,u,⟨D.im,C.bl,C.ar⟩,rfl,⟨hle.im,fun _ _ x=>x,fun _ _ _ x=>x⟩,hback,d3.mono ⟨fun _ _ _ x=>x,(fun _ _ x=>by cases x),(fun _ _ _ x=>by cases x)⟩,k7⟩
end
end Go.Proofs.YtpefhfiehfkocaaGreatDoor
namespace Go.Proofs.YtpefhfiehfkocaaGreatDoor
open Go.RowKit Go.IntWalk
abbrev Bs:=List UInt8
def big:Nat:=1099511627776
structure Enc (α:Type) where
 enc:α→AV
 dec:AV→Option α
 de:∀ x,dec (enc x)=some x
 ed:∀ a x,dec a=some x→a=enc x
structure REnc (α:Type) where
 enc:α→List AV
 dec:List AV→Option α
 de:∀ x,dec (enc x)=some x
 ed:∀ a x,dec a=some x→a=enc x
def eStr:Enc Bs where
 enc:=.str
 dec:=fun a=>match a with | .str s=>some s | _=>none
 de:=fun _=>rfl
 ed:=fun a x h=>by cases a <;> simp at h; subst h; rfl
def eInt:Enc Int where
 enc:=.int .i64
 dec:=fun a=>match a with | .int .i64 s=>some s | _=>none
 de:=fun _=>rfl
 ed:=fun a x h=>by
  split at h
  ·injection h with h; subst h; rfl
  ·cases h
def eKind(k:IntKind):Enc Int where
 enc:=.int k
 dec:=fun a=>match a with | .int k' s=>if k=k' then some s else none | _=>none
 de:=fun _=>if_pos rfl
 ed:=fun a x h=>by
  split at h
  ·split at h
   ·rename_i e; injection h with h; subst h e; rfl
   ·cases h
  ·cases h
def eBool:Enc Bool where
 enc:=.bool
 dec:=fun a=>match a with | .bool s=>some s | _=>none
 de:=fun _=>rfl
 ed:=fun a x h=>by cases a <;> simp at h; subst h; rfl
def eAgg{α:Type}(r:REnc α):Enc α where
 enc:=fun x=>.agg (r.enc x)
 dec:=fun a=>match a with | .agg s=>r.dec s | _=>none
 de:=fun x=>r.de x
 ed:=fun a x h=>by cases a <;> simp at h; rw [r.ed _ _ h]
def decRows{α:Type}(dec:List AV→Option α):List (List AV)→Option (List α)
 | []=>some []
 | r::rs=>match dec r,decRows dec rs with
  | some x,some xs=>some (x::xs)
  | _,_=>none
theorem decRows_ed{α:Type}(r:REnc α):∀ {rows:List (List AV)} {xs:List α},decRows r.dec rows=some xs→rows=xs.map r.enc
 | [],xs,h=>by simp [decRows]at h; subst h; rfl
 | a::rs,xs,h=>by
  simp only [decRows]at h;split at h
  ·rename_i x xs' h2 h3
   injection h with h; subst h
   rw [r.ed _ x h2,decRows_ed r h3]; rfl
  ·cases h
theorem decRows_de{α:Type}(r:REnc α):∀ (xs:List α),decRows r.dec (xs.map r.enc)=some xs
 | []=>rfl
 | x::xs=>by simp [decRows,r.de,decRows_de r xs]
def eSl{α:Type}(r:REnc α):Enc (List α) where
 enc:=fun xs=>.sl (xs.map r.enc)
 dec:=fun a=>match a with | .sl rows=>decRows r.dec rows | _=>none
 de:=fun x=>decRows_de r x
 ed:=fun a x h=>by cases a <;> simp at h; rw [decRows_ed r h]
def rOne{α:Type}(e:Enc α):REnc α where
 enc:=fun x=>[e.enc x]
 dec:=fun a=>match a with | [x]=>e.dec x | _=>none
 de:=fun x=>e.de x
 ed:=fun a x h=>by
  match a,h with
  | [y],h=>rw [e.ed _ _ h]
def eTup2{α β:Type}(a:Enc α)(b:Enc β):Enc (α×β) where
 enc:=fun x=>.tup [a.enc x.1,b.enc x.2]
 dec:=fun v=>match v with
  | .tup [x,y]=>(a.dec x).bind fun x=>(b.dec y).map fun y=>(x,y)
  | _=>none
 de:=fun x=>by simp [a.de,b.de]
 ed:=fun v x h=>by
  split at h
  ·rename_i p q
   simp only [Option.bind_eq_some_iff,Option.map_eq_some_iff]at h;obtain ⟨x',h1,y',h2,rfl⟩:=h;rw [a.ed _ _ h1,b.ed _ _ h2]
  ·cases h
def eTup3{α β γ:Type}(a:Enc α)(b:Enc β)(c:Enc γ):Enc (α×β×γ) where
 enc:=fun x=>.tup [a.enc x.1,b.enc x.2.1,c.enc x.2.2]
 dec:=fun v=>match v with
  | .tup [x,y,z]=>(a.dec x).bind fun x=>(b.dec y).bind fun y=>(c.dec z).map fun z=>(x,y,z)
  | _=>none
 de:=fun x=>by simp [a.de,b.de,c.de]
 ed:=fun v x h=>by
  split at h
  ·rename_i p q r
   simp only [Option.bind_eq_some_iff,Option.map_eq_some_iff]at h;obtain ⟨x',h1,y',h2,z',h3,rfl⟩:=h;rw [a.ed _ _ h1,b.ed _ _ h2,c.ed _ _ h3]
  ·cases h
section
variable {α β γ δ ε ρ:Type} (A:Enc α) (B:Enc β) (C:Enc γ) (D:Enc δ) (R:Enc ρ)
def F0(r:AV):List AV→Option AV
 | []=>some r
 | _=>none
def F1(f:α→Option ρ):List AV→Option AV
 | [a]=>(A.dec a).bind fun x=>(f x).map R.enc
 | _=>none
def F2(f:α→β→Option ρ):List AV→Option AV
 | [a,b]=>(A.dec a).bind fun x=>(B.dec b).bind fun y=>(f x y).map R.enc
 | _=>none
def F3(f:α→β→γ→Option ρ):List AV→Option AV
 | [a,b,c]=>(A.dec a).bind fun x=>(B.dec b).bind fun y=>(C.dec c).bind fun z=>(f x y z).map R.enc
 | _=>none
variable {A B C D R}
theorem F1_use{f:α→Option ρ}{x:α}{r:ρ}(h:f x=some r):F1 A R f [A.enc x]=some (R.enc r):=by simp [F1,A.de,h]
theorem F2_use{f:α→β→Option ρ}{x:α}{y:β}{r:ρ}(h:f x y=some r):F2 A B R f [A.enc x,B.enc y]=some (R.enc r):=by simp [F2,A.de,B.de,h]
theorem F3_use{f:α→β→γ→Option ρ}{x:α}{y:β}{z:γ}{r:ρ}(h:f x y z=some r):F3 A B C R f [A.enc x,B.enc y,C.enc z]=some (R.enc r):=by simp [F3,A.de,B.de,C.de,h]
theorem F0_ok{Q:List AV→AV→Prop}{r:AV}(h:Q [] r):∀ args r',F0 r args=some r'→Q args r':=by
 intro args r' hF
 unfold F0 at hF
 split at hF
 ·injection hF with hF; subst hF; exact h
 ·cases hF
theorem F1_ok{Q:List AV→AV→Prop}{f:α→Option ρ}(h:∀ x r,f x=some r→Q [A.enc x] (R.enc r)):∀ args r,F1 A R f args=some r→Q args r:=by
 intro args r hF
 unfold F1 at hF
 split at hF
 ·simp only [Option.bind_eq_some_iff,Option.map_eq_some_iff]at hF
  obtain ⟨x,h1,r',h2,rfl⟩:=hF;rw [A.ed _ _ h1]; exact h x r' h2
 ·cases hF
theorem F2_ok{Q:List AV→AV→Prop}{f:α→β→Option ρ}(h:∀ x y r,f x y=some r→Q [A.enc x,B.enc y] (R.enc r)):∀ args r,F2 A B R f args=some r→Q args r:=by
 intro args r hF
 unfold F2 at hF
 split at hF
 ·simp only [Option.bind_eq_some_iff,Option.map_eq_some_iff]at hF
  obtain ⟨x,h1,y,h2,r',h3,rfl⟩:=hF;rw [A.ed _ _ h1,B.ed _ _ h2]; exact h x y r' h3
 ·cases hF
theorem F3_ok{Q:List AV→AV→Prop}{f:α→β→γ→Option ρ}(h:∀ x y z r,f x y z=some r→Q [A.enc x,B.enc y,C.enc z] (R.enc r)):∀ args r,F3 A B C R f args=some r→Q args r:=by
 intro args r hF
 unfold F3 at hF
 split at hF
 ·simp only [Option.bind_eq_some_iff,Option.map_eq_some_iff]at hF
  obtain ⟨x,h1,y,h2,z,h3,r',h4,rfl⟩:=hF;rw [A.ed _ _ h1,B.ed _ _ h2,C.ed _ _ h3]; exact h x y z r' h4
 ·cases hF
end
theorem F2_inv{α β ρ:Type}{A:Enc α}{B:Enc β}{R:Enc ρ}{f:α→β→Option ρ}{args:List AV}{r:AV}(h:F2 A B R f args=some r):∃ x y z,args=[A.enc x,B.enc y]∧f x y=some z∧r=R.enc z:=
 F2_ok (Q:=fun args r=>∃ x y z,args=[A.enc x,B.enc y]∧f x y=some z∧r=R.enc z) (fun x y z h=>⟨x,y,z,rfl,h,rfl⟩) args r h
section
variable {G:Gam} {s:Bool} {ks:List MK} {Q:MPost} {env fr:List (Nat×AV)} {h:Heap}
@[simp] theorem trunc_self:trunc h.length fr h=h:=by
 unfold trunc; split <;> simp
@[simp] theorem op_callv{f:FuncId}{caps args:List AV}:opV G false h .callv (some (.fn f caps::args))=callAV G f (args++caps) h:=rfl
theorem op_call_gen{f:FuncId}{F:List AV→Heap→Option (AV×Heap)}{args:List AV}(hf:G f=some (.gen F)):opV G false h (.call f) (some args)=F args h:=by
 simp only [opV,Bool.false_and,Bool.false_eq_true,if_false,evalAll,evalAO,AO.quiet,evalEff,callAV,hf]
theorem call_pure{f:FuncId}{F:List AV→Option AV}{args us:List AV}{r:AV}(hf:G f=some (.pure F))(hv:viewL h args=some us)(hF:F us=some r)(ho:scalar r=true):callAV G f args h=some (r,h):=by
 simp only [callAV,hf,hv,hF,ho,if_true]
theorem call_gen{f:FuncId}{F:List AV→Heap→Option (AV×Heap)}{args:List AV}(hf:G f=some (.gen F)):callAV G f args h=F args h:=by
 simp only [callAV,hf]
theorem ite_pair{α β:Type}{c:Prop}[Decidable c]{v v':α}{h:β}:(if c then some (v,h)else some (v',h))=some (if c then v else v',h):=by split <;> rfl
theorem ite_avbool{c:Prop}[Decidable c]{x y:Bool}:(if c then AV.bool x else AV.bool y)=AV.bool (if c then x else y):=by split <;> rfl
theorem guard_ite{want:Bool}{r:Option (AV×Heap)}{c:Prop}[Decidable c]{x y:AV}:guardV want h r (some (if c then x else y))=if c then guardV want h r (some x)else guardV want h r (some y):=by split <;> rfl
theorem ite_or{x y:Bool}:(if On x then true else y)=(x||y):=by cases x <;> rfl
theorem ite_andb{x y:Bool}:(if On x then y else false)=(x&&y):=by cases x <;> rfl
theorem ite_or'{x y:Bool}:(if On x then y else true)=(!x||y):=by cases x <;> rfl
theorem ite_andb'{x y:Bool}:(if On x then false else y)=(!x&&y):=by cases x <;> rfl
def ltB(a b:Int):Bool:=decide (a<b)
def eqB(a b:Int):Bool:=decide (a=b)
theorem ltB_iff{a b:Int}:ltB a b=true↔a<b:=by simp [ltB]
theorem ltB_not{a b:Int}:ltB a b=false↔b≤a:=by simp [ltB]
theorem eqB_iff{a b:Int}:eqB a b=true↔a=b:=by simp [eqB]
theorem eqB_not{a b:Int}:eqB a b=false↔¬ a=b:=by simp [eqB]
@[simp] theorem eqB_self{a:Int}:eqB a a=true:=by simp [eqB]
@[simp] theorem ltB_self{a:Int}:ltB a a=false:=by simp [ltB]
theorem sc_lss{k:IntKind}{a b:Int}:binAV .lss (.int k a) (.int k b)=some (.bool (ltB a b)):=by simp [binAV,intBin,ltB]
theorem sc_gtr{k:IntKind}{a b:Int}:binAV .gtr (.int k a) (.int k b)=some (.bool (ltB b a)):=by simp [binAV,intBin,ltB]
theorem sc_leq{k:IntKind}{a b:Int}:binAV .leq (.int k a) (.int k b)=some (.bool (!ltB b a)):=by
 by_cases h:b<a <;> simp [binAV,intBin,ltB,h] <;> omega
theorem sc_geq{k:IntKind}{a b:Int}:binAV .geq (.int k a) (.int k b)=some (.bool (!ltB a b)):=by
 by_cases h:a<b <;> simp [binAV,intBin,ltB,h] <;> omega
theorem sc_eql{k:IntKind}{a b:Int}:binAV .eql (.int k a) (.int k b)=some (.bool (eqB a b)):=by simp [binAV,intBin,eqB]; rfl
theorem sc_neq{k:IntKind}{a b:Int}:binAV .neq (.int k a) (.int k b)=some (.bool (!eqB a b)):=by simp [binAV,intBin,eqB]; rfl
theorem sc_add{k:IntKind}{a b:Int}:binAV .add (.int k a) (.int k b)=some (.int k (k.wrap (a+b))):=by simp [binAV,intBin]
theorem sc_sub{k:IntKind}{a b:Int}:binAV .sub (.int k a) (.int k b)=some (.int k (k.wrap (a-b))):=by simp [binAV,intBin]
theorem sc_str{op:BinOp}{a b:Bs}:binAV op (.str a) (.str b)=strBin op a b:=rfl
open Classical in
noncomputable def ask(G:Gam)(h:Heap)(f:FuncId)(caps:List AV)(x:AV):Option Bool:=
 if callAV G f (x::caps) h=some (.bool true,h)then some true
 else if callAV G f (x::caps) h=some (.bool false,h)then some false else none
theorem ask_of{f:FuncId}{caps:List AV}{x:AV}{b:Bool}(hc:callAV G f (x::caps) h=some (.bool b,h)):ask G h f caps x=some b:=by
 unfold ask
 cases b <;> simp [hc]
theorem ask_call{f:FuncId}{caps:List AV}{x:AV}{b:Bool}(ha:ask G h f caps x=some b):callAV G f (x::caps) h=some (.bool b,h):=by
 unfold ask at ha
 split at ha
 ·injection ha with ha; subst ha; assumption
 ·split at ha
  ·injection ha with ha; subst ha; assumption
  ·cases ha
def findA{α:Type}(p:α→Option Bool):Nat→List α→Option Int
 | _,[]=>some (-1)
 | i,x::xs=>match p x with
  | some true=>some i
  | some false=>findA p (i+1) xs
  | none=>none
def findP{α:Type}(p:α→Bool):Nat→List α→Int
 | _,[]=>-1
 | i,x::xs=>if p x then i else findP p (i+1) xs
theorem findA_of{α β:Type}{q:β→Option Bool}{p:α→Bool}{e:α→β}:∀ (xs:List α) (i:Nat),(∀ x∈xs,q (e x)=some (p x))→findA q i (xs.map e)=some (findP p i xs)
 | [],i,_=>rfl
 | x::xs,i,hq=>by
  simp only [List.map_cons,findA,hq x (by simp),findP];cases p x with
  | true=>rfl
  | false=>exact findA_of xs (i+1) (fun y hy=>hq y (by simp [hy]))
theorem findP_nonneg{α:Type}{p:α→Bool}:∀ (xs:List α) (i:Nat),0≤findP p i xs↔xs.any p=true
 | [],i=>by simp [findP]
 | x::xs,i=>by
  simp only [findP,List.any_cons];cases hp:p x with
  | true=>simp
  | false=>simp [findP_nonneg xs (i+1)]
theorem wrap1{i:Nat}(hi:i<big):IntKind.i64.wrap ((i:Int)+1)=((i+1:Nat):Int):=by
 unfold big at hi; rw [i64_in _ (by omega)]; rfl
theorem drop_head{α:Type}{xs:List α}{i:Nat}(h:i<xs.length):∃ x,xs[i]?=some x∧xs.drop i=x::xs.drop (i+1):=⟨xs[i],by simp [h],List.drop_eq_getElem_cons h⟩
theorem cut_all{row:List AV}{n:Nat}(h:row.length=n):cut row 0 n=row:=by subst h; simp [cut]
@[simp] theorem cut_one{v:AV}:cut [v] 0 1=[v]:=rfl
theorem drop_cons{α:Type}{xs rest:List α}{i:Nat}{x:α}(h:xs.drop i=x::rest):i<xs.length∧xs[i]?=some x∧xs.drop (i+1)=rest:=by
 have h1:i<xs.length:=by
  rcases Nat.lt_or_ge i xs.length with h1 | h1
  ·exact h1
  ·rw [List.drop_eq_nil_iff.2 h1]at h; cases h
 refine ⟨h1,?_,by rw [← List.drop_drop,h]; rfl⟩
 have:=congrArg (·[0]?) h; simpa using this
theorem drop_nil{α:Type}{xs:List α}{i:Nat}(h:xs.drop i=[]):xs.length≤i:=by simpa using h
noncomputable def F_IndexFunc(agg:Bool)(n:Nat)(G:Gam):List AV→Heap→Option AV
 | [.sl rows,.fn f caps],h=>if rows.length≤big then (findA (fun row=>if row.length=n then (mkVal agg n row).bind (ask G h f caps)else none) 0 rows).map (.int .i64)else none
 | _,_=>none
noncomputable def F_ContainsFunc(agg:Bool)(n:Nat)(G:Gam):List AV→Heap→Option AV
 | [.sl rows,.fn f caps],h=>if rows.length≤big then (findA (fun row=>if row.length=n then (mkVal agg n row).bind (ask G h f caps)else none) 0 rows).map (fun i=>.bool (!ltB i 0))else none
 | _,_=>none
theorem F_IndexFunc_inv{agg:Bool}{n:Nat}{args:List AV}{r:AV}(hF:F_IndexFunc agg n G args h=some r):∃ rows f caps v,args=[.sl rows,.fn f caps]∧rows.length≤big∧findA (fun row=>if row.length=n then (mkVal agg n row).bind (ask G h f caps)else none) 0 rows=some v∧r=.int .i64 v:=by
 match args,hF with
 | [.sl rows,.fn f caps],hF=>
  simp only [F_IndexFunc]at hF;split at hF
  ·rename_i hb
   simp only [Option.map_eq_some_iff]at hF;obtain ⟨v,hv,rfl⟩:=hF;exact ⟨rows,f,caps,v,rfl,hb,hv,rfl⟩
  ·cases hF
theorem F_ContainsFunc_inv{agg:Bool}{n:Nat}{args:List AV}{r:AV}(hF:F_ContainsFunc agg n G args h=some r):∃ rows f caps v,args=[.sl rows,.fn f caps]∧rows.length≤big∧findA (fun row=>if row.length=n then (mkVal agg n row).bind (ask G h f caps)else none) 0 rows=some v∧r=.bool (!ltB v 0):=by
 match args,hF with
 | [.sl rows,.fn f caps],hF=>
  simp only [F_ContainsFunc]at hF;split at hF
  ·rename_i hb
   simp only [Option.map_eq_some_iff]at hF;obtain ⟨v,hv,rfl⟩:=hF;exact ⟨rows,f,caps,v,rfl,hb,hv,rfl⟩
  ·cases hF
theorem contains_use{α:Type}{C f:FuncId}{agg:Bool}{n:Nat}{G0:Gam}{caps:List AV}{xs:List α}{e:α→List AV}{val:α→AV}{p:α→Bool}(hG:G C=some (.gen (lookF (F_ContainsFunc agg n G0))))(hb:xs.length≤big)
  (hv:∀ x,mkVal agg n (e x)=some (val x)∧(e x).length=n) (hp:∀ x∈xs,ask G0 h f caps (val x)=some (p x)):opV G false h (.call C) (some [.sl (xs.map e),.fn f caps])=some (.bool (xs.any p),h):=by
 rw [op_call_gen hG]
 have:=findA_of (q:=fun row=>if row.length=n then (mkVal agg n row).bind (ask G0 h f caps)else none) (p:=p) (e:=e) xs 0 (fun x hx=>by simp [(hv x).1,(hv x).2,hp x hx])
 have hn:=findP_nonneg (p:=p) xs 0
 have hl:(xs.map e).length≤big:=by simpa using hb
 simp only [lookF,F_ContainsFunc,hl,if_true,this,Option.map_some,Option.some.injEq,Prod.mk.injEq,AV.bool.injEq,and_true]
 cases ha:xs.any p with
 | true=>simp [ltB_not.2 (hn.2 ha)]
 | false=>
  have hn':¬ 0≤findP p 0 xs:=fun k=>by rw [hn.1 k]at ha; cases ha
  simp [ltB_iff.2 (Int.not_le.1 hn')]
theorem op_istr{st:Bool}{s:Bs}{i:Nat}{b:UInt8}{k:IntKind}(hb:s[i]?=some b):opV G st h .istr (some [.str s,.int k i])=some (.int .u8 b.toNat,h):=by
 rw [opV_quiet rfl]; simp [evalPure,hb]
@[simp] theorem op_istr0{st:Bool}{s:Bs}{b:UInt8}{k:IntKind}:opV G st h .istr (some [.str (b::s),.int k 0])=some (.int .u8 b.toNat,h):=op_istr (i:=0) rfl
attribute [simp] ite_pair ite_avbool guard_ite ite_or ite_andb ite_or' ite_andb'
attribute [simp] junkAll lowFr low lowL lowH lowB lowRows strBin unAV sc_lss sc_gtr sc_leq sc_geq sc_eql sc_neq sc_add sc_sub sc_str lenAV pureQ resAV resL resOne view viewL loadAV
end
end Go.Proofs.YtpefhfiehfkocaaGreatDoor
namespace Go.Proofs.YtpefhfiehfkocaaGreatDoor
open Go.RowKit Go.IntWalk
section
variable {β:Type} (V:Enc β)
variable {V}
variable {G:Gam} {s:Bool} {h:Heap}
end
section
variable {G:Gam} {s:Bool} {h:Heap}
@[simp] theorem cellsV_agg(c:List AV):(AV.agg c).cells=c:=rfl
@[simp] theorem cellsV_bool(b:Bool):(AV.bool b).cells=[.bool b]:=rfl
@[simp] theorem oneCV_bool(b:Bool):oneC (AV.bool b)=true:=rfl
@[simp] theorem cellsV_int(k:IntKind)(n:Int):(AV.int k n).cells=[.int k n]:=rfl
@[simp] theorem oneCV_int(k:IntKind)(n:Int):oneC (AV.int k n)=true:=rfl
@[simp] theorem cellsV_str(s:Bs):(AV.str s).cells=[.str s]:=rfl
@[simp] theorem oneCV_str(s:Bs):oneC (AV.str s)=true:=rfl
@[simp] theorem cellsV_sl(r:List (List AV)):(AV.sl r).cells=[.sl r]:=rfl
@[simp] theorem oneCV_sl(r:List (List AV)):oneC (AV.sl r)=true:=rfl
@[simp] theorem cellsV_tsl(r:List (List AV)):(AV.tsl r).cells=[.tsl r]:=rfl
@[simp] theorem oneCV_tsl(r:List (List AV)):oneC (AV.tsl r)=true:=rfl
@[simp] theorem cellsV_nils  : (AV.nils).cells=[.nils ]:=rfl
@[simp] theorem oneCV_nils  : oneC (AV.nils)=true:=rfl
@[simp] theorem cellsV_own(l v n:Nat):(AV.own l v n).cells=[.own l v n]:=rfl
@[simp] theorem oneCV_own(l v n:Nat):oneC (AV.own l v n)=true:=rfl
@[simp] theorem cellsV_map(l:Nat):(AV.map l).cells=[.map l]:=rfl
@[simp] theorem oneCV_map(l:Nat):oneC (AV.map l)=true:=rfl
@[simp] theorem cellsV_ptr(l o:Nat):(AV.ptr l o).cells=[.ptr l o]:=rfl
@[simp] theorem oneCV_ptr(l o:Nat):oneC (AV.ptr l o)=true:=rfl
@[simp] theorem cellsV_fn(f:FuncId)(c:List AV):(AV.fn f c).cells=[.fn f c]:=rfl
@[simp] theorem oneCV_fn(f:FuncId)(c:List AV):oneC (AV.fn f c)=true:=rfl
@[simp] theorem list_set_last2{α:Type}(a b c:α):[a,b].set 1 c=[a,c]:=rfl
@[simp] theorem cut_succ{x:AV}{xs:List AV}{n k:Nat}:cut (x::xs) (n+1) k=cut xs n k:=rfl
@[simp] theorem cut_take{x:AV}{xs:List AV}{k:Nat}:cut (x::xs) 0 (k+1)=x::cut xs 0 k:=rfl
@[simp] theorem cut_none{xs:List AV}{n:Nat}:cut xs n 0=[]:=by simp [cut]
@[simp] theorem mkVal_true{c:AV}{cs:List AV}{n:Nat}:mkVal true n (c::cs)=if (c::cs).length=n then some (.agg (c::cs))else none:=by simp [mkVal]
attribute [simp] setAt owns ownsL freezeAll
theorem op_box{v:AV}{c:AV}{cs:List AV}(hv:v.cells=c::cs):opV G s h .box (some [v])=some (.ptr h.length 0,h++[.cells (c::cs)]):=by
 rw [opV_eff rfl]; simp only [evalEff,hv]
@[simp] theorem op_box_agg{c:AV}{cs:List AV}:opV G s h .box (some [.agg (c::cs)])=some (.ptr h.length 0,h++[.cells (c::cs)]):=op_box rfl
@[simp] theorem op_box_str{x:Bs}:opV G s h .box (some [.str x])=some (.ptr h.length 0,h++[.cells [.str x]]):=op_box rfl
@[simp] theorem op_box_map{l:Nat}:opV G s h .box (some [.map l])=some (.ptr h.length 0,h++[.cells [.map l]]):=op_box rfl
@[simp] theorem op_box_int{k:IntKind}{n:Int}:opV G s h .box (some [.int k n])=some (.ptr h.length 0,h++[.cells [.int k n]]):=op_box rfl
@[simp] theorem op_box_sl{n:List (List AV)}:opV G s h .box (some [.sl n])=some (.ptr h.length 0,h++[.cells [.sl n]]):=op_box rfl
@[simp] theorem stAV_ptr{n l off:Nat}{v:AV}:stAV n h (.ptr l off) v=if v.cells.length=n∧0<n∧v.cells.all oneC then (match h[l]? with
   | some (.cellsT tg vs)=>if off+n≤vs.length then some (h.set l (.cellsT tg (setAt vs off v.cells)))else none
   | _=>none)else none:=rfl
theorem rows_own{tg:Option TypeId}{l v sz:Nat}{rows:List (List AV)}{wr:Bool}(hl:h[l]?=some (.arrT tg sz v rows wr)){n:Nat}(hn:n=rows.length):rowsOf h (.own l v n)=some rows:=by
 subst hn; simp [rowsOf,hl]
theorem iadr_own{tg:Option TypeId}{l v sz size i n:Nat}{rows:List (List AV)}{wr:Bool}{k:IntKind}{row:List AV}(hl:h[l]?=some (.arrT tg sz v rows wr))(hn:n=rows.length)(hi:rows[i]?=some row)(hr:row.length=size):iadrAV size h (.own l v n) (.int k i)=some (.eptr l v i 0):=by
 have hlt:i<rows.length:=(List.getElem?_eq_some_iff.1 hi).1
 subst hn
 have h1:(i:Int)<rows.length:=by omega
 simp [iadrAV,hl,hi,hr,h1]
theorem ld_eptr{tg:Option TypeId}{l v sz size i off:Nat}{agg:Bool}{rows:List (List AV)}{wr:Bool}{row:List AV}(hl:h[l]?=some (.arrT tg sz v rows wr))(hi:rows[i]?=some row):loadAV size agg h (.eptr l v i off)=mkVal agg size (cut row off size):=by
 simp [loadAV,hl,hi]
theorem op_st_eptr{l v sz n i off:Nat}{rows:List (List AV)}{row:List AV}{x:AV}(hl:h[l]?=some (.arr sz v rows true))(hi:rows[i]?=some row)(h1:x.cells.length=n)(h2:0<n)(h3:x.cells.all oneC=true)(h4:off+n≤row.length)(hv:view h x=some x)(ho:owns x=[]):opV G s h (.st n) (some [.eptr l v i off,x])=some (.junk,h.set l (.arr sz v (rows.set i (setAt row off x.cells)) true)):=by
 rw [op_st]; simp [stAV,h1,h2,h3,frz,hv,ho,freezeAll,hl,hi,h4]
theorem op_mksl{zero:List AV}{bytes n:Nat}{k k':IntKind}(h1:n*bytes≤byteMax)(h2:n≤byteMax):opV G s h (.mksl zero bytes) (some [.int k n,.int k' n])=some (.own h.length 0 n,h++[.arr zero.length 0 (List.replicate n zero) true]):=by
 rw [opV_eff rfl]; simp [evalEff,h1,h2]
theorem sizesOk_map{α:Type}{e:α→List AV}{n:Nat}(he:∀ x,(e x).length=n):∀ xs:List α,sizesOk n (xs.map e)=true
 | []=>rfl
 | x::xs=>by simp [sizesOk,he,sizesOk_map he xs]
theorem op_app1{α:Type}{e:α→List AV}{n b l:Nat}{os:List α}{x:α}(hl:h[l]?=some (.arr n os.length (os.map e) true))(hs:(e x).length=n)(hb:b≤64)(ho:os.length<big) :
  opV G s h (.app false n b) (some [.own l os.length os.length,.tsl [e x]])=some (.own l (os++[x]).length (os++[x]).length,h.set l (.arr n (os++[x]).length ((os++[x]).map e) true)):=by
 have hbig:(os.length+1)*b≤byteMax:=by
  have:(os.length+1)*b≤big*64:=Nat.mul_le_mul (by omega) hb;unfold byteMax; unfold big at this ho; omega
 have:=op_app (G:=G) (s:=s) (h:=h) (n:=n) (b:=b) (l:=l) (ver:=os.length) (k:=os.length) (x:=.tsl [e x]) (new:=[e x]) (rows:=os.map e) rfl hl (by simp) (by simp [sizesOk,hs]) (by simp) (by simpa using hbig) (by unfold big at ho; unfold byteMax; simp; omega)
 simpa using this
end
def eNat:Enc Nat where
 enc:=fun n=>.int .i64 n
 dec:=fun a=>match a with | .int .i64 s=>if 0≤s then some s.toNat else none | _=>none
 de:=fun n=>by simp
 ed:=fun a x h=>by
  split at h
  ·split at h
   ·injection h with h; subst h; rename_i s hs; congr 1; omega
   ·cases h
  ·cases h
@[simp] theorem eNat_enc(n:Nat):eNat.enc n=.int .i64 n:=rfl
@[simp] theorem eStr_enc(n:Bs):eStr.enc n=.str n:=rfl
@[simp] theorem eInt_enc(n:Int):eInt.enc n=.int .i64 n:=rfl
@[simp] theorem eKind_enc(k:IntKind)(n:Int):(eKind k).enc n=.int k n:=rfl
@[simp] theorem eBool_enc(n:Bool):eBool.enc n=.bool n:=rfl
@[simp] theorem eTup2_enc{α β:Type}(a:Enc α)(b:Enc β)(x:α×β):(eTup2 a b).enc x=.tup [a.enc x.1,b.enc x.2]:=rfl
@[simp] theorem eTup3_enc{α β γ:Type}(a:Enc α)(b:Enc β)(c:Enc γ)(x:α×β×γ):(eTup3 a b c).enc x=.tup [a.enc x.1,b.enc x.2.1,c.enc x.2.2]:=rfl
end Go.Proofs.YtpefhfiehfkocaaGreatDoor
