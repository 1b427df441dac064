/- Slices that begin as an empty literal and are added to; the reference's before,List,merge. slices.SortFunc of spans at this program: cmp.Compare,cmp.Or,the closure. slices.SortFunc of spans: the c -/
import Derived.Test.YtbfcbkjemlgnpaaGreatDoorOB
import Derived.Test.YtbfcbkjemlgnpaaGreatDoorShelf
import Derived.Test.YtbfcbkjemlgnpaaGreatDoorRmJ
import Derived.WalkKit
import Derived.KernelRfl
import Derived.Deep.RegionHeld3
import Derived.Shelf.SlSortCmp.NoneTotal
namespace Go.Proofs.YtbfcbkjemlgnpaaGreatDoor
open Go.RowKit Go.IntWalk
section
variable {α:Type}
def oA(L:Nat):List α→AV
 | []=>.tsl []
 | _::r=>.own L r.length (r.length+1)
def oH(P:Heap)(n:Nat)(e:α→List AV):List α→Heap
 | []=>P
 | x::r=>P++[.arr n r.length ((x::r).map e) true]
theorem oA_snoc(L:Nat)(os:List α)(x:α):oA L (os++[x])=.own L os.length (os.length+1):=by cases os <;> simp [oA]
theorem oH_snoc(P:Heap)(n:Nat)(e:α→List AV)(os:List α)(x:α):oH P n e (os++[x])=P++[.arr n os.length ((os++[x]).map e) true]:=by cases os <;> simp [oH]
theorem o_app{G:Gam}{s:Bool}{P:Heap}{n b:Nat}{e:α→List AV}(he:∀ x,(e x).length=n)(hb:b≤64){L:Nat}(hL:L=P.length){os:List α}(ho:os.length+1<big)(x:α) :
  opV G s (oH P n e os) (.app false n b) (some [oA L os,.tsl [e x]])=some (oA L (os++[x]),oH P n e (os++[x])):=by
 subst hL
 rw [oA_snoc,oH_snoc]
 unfold big at ho
 cases os with
 | nil=>
  rw [opV_eff rfl];have h1:1*b≤byteMax:=by unfold byteMax; omega
  have h2:1≤byteMax:=by unfold byteMax; omega
  have h3:b≤byteMax:=by omega
  simp [evalEff,appRows,rowsOf,sizesOk,he,oA,oH,appAV,h2,h3]
 | cons y r=>
  have hl:(P++[Blk.arr n r.length ((y::r).map e) true])[P.length]?=some (.arr n r.length ((y::r).map e) true):=by simp
  have h1:(r.length+1+[e x].length)*b≤byteMax:=by
   have:(r.length+1+[e x].length)*b≤1099511627776*64:=Nat.mul_le_mul (by simp at ho ⊢; omega) hb;unfold byteMax; omega
  have:=op_app (G:=G) (s:=s) (h:=P++[Blk.arr n r.length ((y::r).map e) true]) (n:=n) (b:=b) (l:=P.length) (ver:=r.length) (k:=r.length+1) (x:=.tsl [e x]) (new:=[e x]) (rows:=(y::r).map e) rfl hl (by simp) (by simp [sizesOk,he]) (by simp) h1 (by simp at ho ⊢; unfold byteMax; omega);simp only [oA,oH];rw [this];simp
theorem o_len{L:Nat}{os:List α}(h:Heap):lenAV h 1 (oA L os)=some (.int .i64 (os.length:Int)):=by cases os <;> simp [oA,lenAV]
theorem o_rows{P:Heap}{n:Nat}{e:α→List AV}{L:Nat}(hL:L=P.length)(os:List α):rowsOf (oH P n e os) (oA L os)=some (os.map e):=by
 subst hL
 cases os <;> simp [oA,oH,rowsOf,List.take_of_length_le]
theorem o_view{P:Heap}{n:Nat}{e:α→List AV}{L:Nat}(hL:L=P.length)(os:List α):view (oH P n e os) (oA L os)=some (.sl (os.map e)):=by
 have:=o_rows (n:=n) (e:=e) hL os
 cases os with
 | nil=>simp [oA,view]
 | cons x r=>simp only [oA]at this ⊢; simp [view,this]
theorem trunc_same{n:Nat}{fr:List (Nat×AV)}{h:Heap}(hl:h.length=n∨lowFr n fr=false):trunc n fr h=h:=by
 rcases hl with hl | hl
 ·exact vtrunc_len hl
 ·unfold trunc; simp [hl]
end
theorem ln_len(x:Ln):x.row.length=2:=rfl
theorem spn_len(x:Sp):x.row.length=3:=rfl
def F_bef:List AV→Option AV
 | [.agg a,.agg b]=>match decLn a,decLn b with
  | some a,some b=>some (.bool (befO a b))
  | _,_=>none
 | _=>none
theorem before_ok{G:Gam}:∀ args r,F_bef args=some r→wpM G Mc.q65 (pureQ Rs.q65 r) [] (frInit Ks.q65 args) []:=by
 intro args r hF
 unfold F_bef at hF
 split at hF
 ·split at hF
  ·rename_i ra rb a b ha hb
   injection hF with hF; subst hF
   obtain rfl:=decLn_of ha;obtain rfl:=decLn_of hb;have ob:=fun st=>box_ln (G:=G) a st []
   have ob2:=fun st=>box_ln (G:=G) b st [.cells a.row]
   have p0:loadAV 1 false [.cells a.row,.cells b.row] (.ptr 0 0)=some (.str a.p):=ld_cell (l:=0) rfl rfl;have p1:loadAV 1 false [.cells a.row,.cells b.row] (.ptr 0 1)=some (.int .i64 a.n):=ld_cell (l:=0) rfl rfl;have q0:loadAV 1 false [.cells a.row,.cells b.row] (.ptr 1 0)=some (.str b.p):=ld_cell (l:=1) rfl rfl;have q1:loadAV 1 false [.cells a.row,.cells b.row] (.ptr 1 1)=some (.int .i64 b.n):=ld_cell (l:=1) rfl rfl;have e:befO a b=(Op.bytesLess a.p b.p||(a.p == b.p&&ltB a.n b.n)):=rfl;rw [wpM_go,e];simp at ob ob2;generalize a.row=ra at *;generalize b.row=rb at *;cases c1:Op.bytesLess a.p b.p <;> cases c2:a.p == b.p <;> cases c3:ltB a.n b.n <;>
    simp [Mc.q65,Ks.q65,frInit,ob,ob2,p0,p1,q0,q1,strBin,c1,c2,c3,pureQ,Rs.q65,-loadAV]
  ·cases hF
 ·cases hF
theorem use_before{G:Gam}(h:G Fn.q65=some (.pure F_bef))(a b:Ln)(st:Bool)(H:Heap):opV G st H (.call Fn.q65) (some [.agg a.row,.agg b.row])=some (.bool (befO a b),H):=
 op_call h (us:=[.agg a.row,.agg b.row]) rfl (by simp [F_bef]) (.inl rfl)
theorem ia_ln{l:List Ln}{i:Nat}{s:Ln}(h:l[i]?=some s)(H:Heap):iadrAV 2 H (.sl (lnRows l)) (.int .i64 (i:Int))=some (.fptr s.row 0):=by
 have r1:=lnRows_get h
 have:s.row.length=2:=rfl
 simp [iadrAV,r1,this]
theorem ld_fln(s:Ln)(H:Heap):loadAV 2 true H (.fptr s.row 0)=some (.agg s.row):=by simp [loadAV,cut,mkVal,Ln.row]
theorem ld_fln0(s:Ln)(H:Heap):loadAV 1 false H (.fptr s.row 0)=some (.str s.p):=by simp [loadAV,cut,mkVal,Ln.row]
theorem ld_fln1(s:Ln)(H:Heap):loadAV 1 false H (.fptr s.row 1)=some (.int .i64 s.n):=by simp [loadAV,cut,mkVal,Ln.row]
def okN(l:List Ln):Bool:=decide (l.length≤100000000000)
def F_rmerge:List AV→Option AV
 | [.sl a,.sl b]=>match decAll decLn a,decAll decLn b with
  | some a,some b=>if okN a=true∧okN b=true then some (.sl (lnRows (meltO a b)))else none
  | _,_=>none
 | _=>none
abbrev P2:Heap:=[.arr 2 0 [] true]
theorem rmerge_end{G:Gam}{a b:List Ln}{R:List Ln}{fr0:AV}(i k:Nat)(hi:i=a.length)(hk:k=b.length) :
  headM G [] Mc.q76_L0 1 [.blk 0,.seq (.seq (.reg [zm 58 5,zM 4 58]) .ret)] (pureQ Rs.q76 (.sl (lnRows R)))
   [(0,.sl (lnRows a)),(1,.sl (lnRows b)),(4,fr0),(5,oA 1 R),(6,.int .i64 i),(7,.int .i64 k)] (oH P2 2 Ln.row R):=by
 have q1:ltB (i:Int) (a.length:Int)=false:=ltB_not.2 (by omega)
 have q2:ltB (k:Int) (b.length:Int)=false:=ltB_not.2 (by omega)
 have vw:=o_view (P:=P2) (n:=2) (e:=Ln.row) (L:=1) rfl R
 have la:∀ H:Heap,lenAV H 1 (.sl (lnRows a))=some (.int .i64 (a.length:Int)):=fun H=>by simp [lenAV]
 have lb:∀ H:Heap,lenAV H 1 (.sl (lnRows b))=some (.int .i64 (b.length:Int)):=fun H=>by simp [lenAV]
 refine head_go (Mc.q76_L0.eq_1) ?_
 rw [trunc_same (n:=1) (h:=oH P2 2 Ln.row R) ?hh]
 case hh=>cases R with
  | nil=>exact .inl rfl
  | cons x r=>exact .inr (by simp [junkAll,lowFr,low,oA])
 generalize oA 1 R=oo at *
 generalize oH P2 2 Ln.row R=HH at *
 simp [q1,q2,vw,pureQ,Rs.q76,lnRows]
theorem rmerge_L0(G:Gam)(hB:G Fn.q65=some (.pure F_bef))(a b:List Ln)(ha:a.length≤100000000000)(hb:b.length≤100000000000)(R:List Ln)(v4:AV):∀ (m:Nat) (ra rb:List Ln) (i k:Nat) (os:List Ln),ra.length+rb.length=m→a.drop i=ra→b.drop k=rb→i≤a.length→k≤b.length→os.length=i+k→R=os++meltO ra rb→
  headM G [] Mc.q76_L0 1 [.blk 0,.seq (.seq (.reg [zm 58 5,zM 4 58]) .ret)] (pureQ Rs.q76 (.sl (lnRows R)))
   [(0,.sl (lnRows a)),(1,.sl (lnRows b)),(4,v4),(5,oA 1 os),(6,.int .i64 i),(7,.int .i64 k)] (oH P2 2 Ln.row os):=by
 intro m
 induction m with
 | zero=>
  intro ra rb i k os hm hda hdb hi hk ho hR;have ea:ra=[]:=List.length_eq_zero_iff.1 (by omega);have eb:rb=[]:=List.length_eq_zero_iff.1 (by omega);subst ea eb;have i1:=drop_nil hda;have k1:=drop_nil hdb;have:R=os:=by rw [hR]; simp [meltO]
  subst this;exact rmerge_end i k (by omega) (by omega)
 | succ m ih=>
  intro ra rb i k os hm hda hdb hi hk ho hR;have la:∀ H:Heap,lenAV H 1 (.sl (lnRows a))=some (.int .i64 (a.length:Int)):=fun H=>by simp [lenAV]
  have lb:∀ H:Heap,lenAV H 1 (.sl (lnRows b))=some (.int .i64 (b.length:Int)):=fun H=>by simp [lenAV]
  have bs:∀ (x:Ln) st h,opV G st h (.bsl false 2) (some [.agg x.row])=some (.tsl [x.row],h):=fun x st h=>by rw [op_bsl rfl]; rfl
  have ap:∀ (x:Ln),opV G false (oH P2 2 Ln.row os) (.app false 2 24) (some [oA 1 os,.tsl [x.row]])=some (oA 1 (os++[x]),oH P2 2 Ln.row (os++[x])):=fun x=>o_app ln_len (by omega) rfl (by unfold big; omega) x
  have wi:=wrap1 (i:=i) (by unfold big; omega);have wk:=wrap1 (i:=k) (by unfold big; omega);have takeA:∀ (x:Ln) (ra':List Ln),ra=x::ra'→R=(os++[x])++meltO ra' rb→(rb=[]∨∃ y rb',rb=y::rb'∧befO x y=true)→headM G [] Mc.q76_L0 1 [.blk 0,.seq (.seq (.reg [zm 58 5,zM 4 58]) .ret)] (pureQ Rs.q76 (.sl (lnRows R)))
   [(0,.sl (lnRows a)),(1,.sl (lnRows b)),(4,v4),(5,oA 1 os),(6,.int .i64 i),(7,.int .i64 k)] (oH P2 2 Ln.row os):=by
   intro x ra' e hR' hc;subst e;obtain ⟨hlt,hx,hxd⟩:=drop_cons hda;have q1:ltB (i:Int) (a.length:Int)=true:=ltB_iff.2 (by omega);have ia:=ia_ln hx;have l2:=ld_fln x;have apx:=ap x;have tr:∀ p q,trunc 1 [(0,.sl (lnRows a)),(1,.sl (lnRows b)),(4,v4),(5,oA 1 (os++[x])),(6,p),(7,q)] (oH P2 2 Ln.row (os++[x]))=oH P2 2 Ln.row (os++[x]):=fun p q=>trunc_same (.inr (by rw [oA_snoc]; simp [lowFr,low]))
   have next:=ih ra' rb (i+1) k (os++[x]) (by simp at hm ⊢; omega) hxd hdb (by omega) hk (by simp; omega) hR'
   refine head_go (Mc.q76_L0.eq_1) ?_
   rw [trunc_same (n:=1) (h:=oH P2 2 Ln.row os) ?hh]
   case hh=>cases os with
    | nil=>exact .inl rfl
    | cons x r=>exact .inr (by simp [junkAll,lowFr,low,oA])
   rcases hc with rfl | ⟨y,rb',rfl,hxy⟩
   ·have k1:=drop_nil hdb
    have e1:eqB (k:Int) (b.length:Int)=true:=eqB_iff.2 (by omega);generalize oA 1 os=oo at *;generalize oH P2 2 Ln.row os=HH at *;generalize oA 1 (os++[x])=oo2 at *;generalize oH P2 2 Ln.row (os++[x])=HH2 at *;generalize lnRows a=RA at *;generalize lnRows b=RB at *;simp [q1,la,lb,e1,ia,l2,bs,apx,wi,-loadAV,-op_bsl,-lenAV];refine head_of ?_
    simpa [tr,Rs.q76] using next
   ·obtain ⟨hlt2,hy,hyd⟩:=drop_cons hdb
    have e1:eqB (k:Int) (b.length:Int)=false:=eqB_not.2 (by omega);have ia2:=ia_ln hy;have l22:=ld_fln y;have cb:=use_before hB x y;rw [hxy]at cb;generalize oA 1 os=oo at *;generalize oH P2 2 Ln.row os=HH at *;generalize oA 1 (os++[x])=oo2 at *;generalize oH P2 2 Ln.row (os++[x])=HH2 at *;generalize lnRows a=RA at *;generalize lnRows b=RB at *;simp [q1,la,lb,e1,ia,l2,ia2,l22,cb,bs,apx,wi,-loadAV,-op_bsl,-lenAV];refine head_of ?_
    simpa [tr,Rs.q76] using next
  have takeB:∀ (y:Ln) (rb':List Ln),rb=y::rb'→R=(os++[y])++meltO ra rb'→(ra=[]∨∃ x ra',ra=x::ra'∧befO x y=false)→headM G [] Mc.q76_L0 1 [.blk 0,.seq (.seq (.reg [zm 58 5,zM 4 58]) .ret)] (pureQ Rs.q76 (.sl (lnRows R)))
   [(0,.sl (lnRows a)),(1,.sl (lnRows b)),(4,v4),(5,oA 1 os),(6,.int .i64 i),(7,.int .i64 k)] (oH P2 2 Ln.row os):=by
   intro y rb' e hR' hc;subst e;obtain ⟨hlt,hy,hyd⟩:=drop_cons hdb;have q2:ltB (k:Int) (b.length:Int)=true:=ltB_iff.2 (by omega);have e1:eqB (k:Int) (b.length:Int)=false:=eqB_not.2 (by omega);have ia:=ia_ln hy;have l2:=ld_fln y;have apx:=ap y;have tr:∀ p q,trunc 1 [(0,.sl (lnRows a)),(1,.sl (lnRows b)),(4,v4),(5,oA 1 (os++[y])),(6,p),(7,q)] (oH P2 2 Ln.row (os++[y]))=oH P2 2 Ln.row (os++[y]):=fun p q=>trunc_same (.inr (by rw [oA_snoc]; simp [lowFr,low]))
   have next:=ih ra rb' i (k+1) (os++[y]) (by simp at hm ⊢; omega) hda hyd hi (by omega) (by simp; omega) hR'
   refine head_go (Mc.q76_L0.eq_1) ?_
   rw [trunc_same (n:=1) (h:=oH P2 2 Ln.row os) ?hh]
   case hh=>cases os with
    | nil=>exact .inl rfl
    | cons x r=>exact .inr (by simp [junkAll,lowFr,low,oA])
   rcases hc with rfl | ⟨x,ra',rfl,hxy⟩
   ·have i1:=drop_nil hda
    have q1:ltB (i:Int) (a.length:Int)=false:=ltB_not.2 (by omega);generalize oA 1 os=oo at *;generalize oH P2 2 Ln.row os=HH at *;generalize oA 1 (os++[y])=oo2 at *;generalize oH P2 2 Ln.row (os++[y])=HH2 at *;generalize lnRows a=RA at *;generalize lnRows b=RB at *;simp [q1,q2,la,lb,e1,ia,l2,bs,apx,wk,-loadAV,-op_bsl,-lenAV];refine head_of ?_
    simpa [tr,Rs.q76] using next
   ·obtain ⟨hlt2,hx,hxd⟩:=drop_cons hda
    have q1:ltB (i:Int) (a.length:Int)=true:=ltB_iff.2 (by omega);have ia2:=ia_ln hx;have l22:=ld_fln x;have cb:=use_before hB x y;rw [hxy]at cb;generalize oA 1 os=oo at *;generalize oH P2 2 Ln.row os=HH at *;generalize oA 1 (os++[y])=oo2 at *;generalize oH P2 2 Ln.row (os++[y])=HH2 at *;generalize lnRows a=RA at *;generalize lnRows b=RB at *;simp [q1,la,lb,e1,ia,l2,ia2,l22,cb,bs,apx,wk,-loadAV,-op_bsl,-lenAV];refine head_of ?_
    simpa [tr,Rs.q76] using next
  match ra,rb,hm with
  | [],y::rb',hm=>exact takeB y rb' rfl (by rw [hR]; simp [meltO]) (.inl rfl)
  | x::ra',[],hm=>exact takeA x ra' rfl (by rw [hR]; cases ra' <;> simp [meltO]) (.inl rfl)
  | x::ra',y::rb',hm=>
   cases hxy:befO x y with
   | true=>exact takeA x ra' rfl (by rw [hR,meltO,if_pos hxy]; simp) (.inr ⟨y,rb',rfl,hxy⟩)
   | false=>exact takeB y rb' rfl (by rw [hR,meltO,if_neg (by rw [hxy]; exact Bool.false_ne_true)]; simp) (.inr ⟨x,ra',rfl,hxy⟩)
theorem rmerge_ok{G:Gam}(hB:G Fn.q65=some (.pure F_bef)):∀ args r,F_rmerge args=some r→wpM G Mc.q76 (pureQ Rs.q76 r) [] (frInit Ks.q76 args) []:=by
 intro args r hF
 unfold F_rmerge at hF
 split at hF
 ·split at hF
  ·rename_i a b ha hb
   split at hF
   ·rename_i hc
    injection hF with hF; subst hF
    obtain rfl:=lnRows_of ha;obtain rfl:=lnRows_of hb;simp only [okN,decide_eq_true_eq]at hc;have ih:=rmerge_L0 G hB a b hc.1 hc.2 (meltO a b) (.own 0 0 0) (a.length+b.length) a b 0 0 [] rfl rfl rfl (by omega) (by omega) rfl rfl;rw [wpM_go];have b0:∀ st h,opV G st h (.bsl false 2) (some [])=some (.tsl [],h):=fun st h=>by rw [op_bsl rfl]; rfl
    simp [Mc.q76,Ks.q76,frInit,b0,-op_bsl];simpa [oA,oH] using ih
   ·cases hF
  ·cases hF
 ·cases hF
theorem use_rmerge{G:Gam}(h:G Fn.q76=some (.pure F_rmerge)){a b:List Ln}(ha:okN a=true)(hb:okN b=true)(st:Bool)(H:Heap):opV G st H (.call Fn.q76) (some [.sl (lnRows a),.sl (lnRows b)])=some (.sl (lnRows (meltO a b)),H):=
 op_call h (us:=[.sl (lnRows a),.sl (lnRows b)]) rfl (by simp only [F_rmerge,dec_lnRows]; rw [if_pos ⟨ha,hb⟩]) (.inr rfl)
end Go.Proofs.YtbfcbkjemlgnpaaGreatDoor
namespace Go.Proofs.YtbfcbkjemlgnpaaGreatDoor
open Go.RowKit Go.Lib Go.Sort Go.Shelf
set_option maxHeartbeats 1000000 in
set_option maxRecDepth 100000 in
theorem cmpI(x y:Int)(w:World):Calls Tryz.prog 55 #[.int .i64 x,.int .i64 y] w fun e w'=>e=.returned (.int .i64 (Lib.compareInt x y))∧w'=w:=by
 rcases Int.lt_trichotomy x y with h | h | h
 ·have h1:decide (x<y)=true:=decide_eq_true h
  have h2:Lib.compareInt x y=-1:=by simp [Lib.compareInt,h]
  rw [h2];go_enter Tryz.func55,Tryz.ntmps55
  go_wp2_with (go_at_call 96; refine (Tryz.cmp_isNaN_int2 _ _).mono ?_; rintro e w' ⟨rfl,rfl⟩)
  go_ret
  exact ⟨rfl,rfl⟩
 ·subst h
  have h1:decide (x<x)=false:=decide_eq_false (by omega);have h2:Lib.compareInt x x=0:=by simp [Lib.compareInt]
  rw [h2];go_enter Tryz.func55,Tryz.ntmps55
  go_wp2_with (go_at_call 96; refine (Tryz.cmp_isNaN_int2 _ _).mono ?_; rintro e w' ⟨rfl,rfl⟩)
  go_ret
  exact ⟨rfl,rfl⟩
 ·have h1:decide (x<y)=false:=decide_eq_false (by omega)
  have h3:decide (y<x)=true:=decide_eq_true h;have h2:Lib.compareInt x y=1:=by simp [Lib.compareInt,show ¬ x<y by omega,h]
  rw [h2];go_enter Tryz.func55,Tryz.ntmps55
  go_wp2_with (go_at_call 96; refine (Tryz.cmp_isNaN_int2 _ _).mono ?_; rintro e w' ⟨rfl,rfl⟩)
  go_ret
  exact ⟨rfl,rfl⟩
def or2(a b:Int):Int:=if a=0 then b else a
set_option maxHeartbeats 2000000 in
set_option maxRecDepth 100000 in
theorem cmpOr2(b c:Nat)(x y:Int)(w:World)(hx:w.cell? ⟨b,0,none⟩=some (.int .i64 x))(hy:w.cell? ⟨b,1,none⟩=some (.int .i64 y))(_:2≤c) :
  Calls Tryz.prog 54 #[.slice (some ⟨b,0,none⟩) 2 c] w fun e w'=>e=.returned (.int .i64 (or2 x y))∧w'=w:=by
 by_cases h:x=0
 ·subst h
  by_cases k:y=0
  ·subst k
   rw [show or2 0 0=0 from rfl];go_enter Tryz.func54,Tryz.ntmps54
   go_wp2
   refine wp_loop_rounds 3 ?_
   rw [rounds_succ];go_wp2
   rw [rounds_succ];go_wp2
   rw [rounds_succ];go_wp2
   go_ret
   exact ⟨rfl,rfl⟩
  ·have f1:(y == 0)=false:=by simpa using k
   have f2:(y != 0)=true:=by simpa using k
   rw [show or2 0 y=y from rfl];go_enter Tryz.func54,Tryz.ntmps54
   go_wp2
   refine wp_loop_rounds 3 ?_
   rw [rounds_succ];go_wp2
   rw [rounds_succ];go_wp2
   go_ret
   exact ⟨rfl,rfl⟩
 ·have f1:(x == 0)=false:=by simpa using h
  have f2:(x != 0)=true:=by simpa using h
  rw [show or2 x y=x from if_neg h];go_enter Tryz.func54,Tryz.ntmps54
  go_wp2
  refine wp_loop_rounds 3 ?_
  rw [rounds_succ];go_wp2
  go_ret
  exact ⟨rfl,rfl⟩
end Go.Proofs.YtbfcbkjemlgnpaaGreatDoor
namespace Go.Proofs.YtbfcbkjemlgnpaaGreatDoor
open Go.RowKit Go.Lib Go.Sort Go.Shelf
def cfSp(x y:Sp):Int:=or2 (Lib.compareBytes x.p y.p) (Lib.compareInt x.f y.f)
def encSp(x:Sp):List Value:=[.string ⟨x.p.toArray⟩,.int .i64 x.f,.int .i64 x.t]
def GrW(W w':World):Prop:=∃ q os',w'=Go.Sort.grow (W.drewN q) os'
theorem GrW.refl(W:World):GrW W W:=⟨0,#[],by rw [Go.Sort.grow_empty]; rfl⟩
theorem GrW.alloc{W w':World}(h:GrW W w')(o:Obj):GrW W (w'.alloc o):=by
 obtain ⟨q,os,rfl⟩:=h
 exact ⟨q,os++#[o],by rw [alloc_eq_grow,grow_grow]⟩
theorem GrW.drew{W w':World}(h:GrW W w'):GrW W w'.drew:=by
 obtain ⟨q,os,rfl⟩:=h
 exact ⟨q+1,os,rfl⟩
theorem cell_newN{w:World}{c:Array Value}{e:TypeId}{n i:Nat}(h:n=w.heap.size):(w.alloc (.cells c e)).cell? ⟨n,i,none⟩=c[i]?:=by
 subst h
 have eh:(w.alloc (.cells c e)).heap[w.heap.size]?=some (.cells c e):=World.alloc_heap_new w _
 show (match (w.alloc (.cells c e)).heap[w.heap.size]? with | some (.cells c _ _)=>if (none:Option _).isSome then none else c[i]? | _=>none)=_
 rw [eh]; rfl
set_option maxHeartbeats 4000000 in
set_option maxRecDepth 100000 in
theorem cmpSp(x y:Sp)(W:World):Calls Tryz.prog 205 #[.agg (encSp x).toArray,.agg (encSp y).toArray] W fun e w'=>e=.returned (.int .i64 (cfSp x y))∧GrW W w':=by
 obtain ⟨p,f,t⟩:=x
 obtain ⟨p',f',t'⟩:=y
 have hs:∀ W',Calls Tryz.prog 97 #[.string ⟨p.toArray⟩,.string ⟨p'.toArray⟩] W' fun e w'=>e=.returned (.int .i64 (Lib.compareBytes p p'))∧w'=W':=fun W'=>by
  have h:Calls Tryz.prog 97 #[.string ⟨p.toArray⟩,.string ⟨p'.toArray⟩] W' fun e w'=>e=.returned (.int .i64 (Lib.compareBytes (ByteArray.mk p.toArray).data.toList (ByteArray.mk p'.toArray).data.toList))∧w'=W':=Tryz.strings_Compare ⟨p.toArray⟩ ⟨p'.toArray⟩ W'
  simpa using h
 have hi:∀ W',Calls Tryz.prog 55 #[.int .i64 f,.int .i64 f'] W' fun e w'=>e=.returned (.int .i64 (Lib.compareInt f f'))∧w'=W':=fun W'=>cmpI f f' W'
 show Calls Tryz.prog 205 #[.agg #[.string ⟨p.toArray⟩,.int .i64 f,.int .i64 t],.agg #[.string ⟨p'.toArray⟩,.int .i64 f',.int .i64 t']] W _
 have e:cfSp ⟨p,f,t⟩ ⟨p',f',t'⟩=or2 (Lib.compareBytes p p') (Lib.compareInt f f'):=rfl
 rw [e]
 generalize Lib.compareBytes p p'=c1 at hs ⊢
 generalize Lib.compareInt f f'=c2 at hi ⊢
 go_enter Tryz.func205,Tryz.ntmps205
 go_wp2
 go_region_held3 (fun w'=>w'.cell? ⟨W.heap.size,0,none⟩=some (.string ⟨p.toArray⟩)∧w'.cell? ⟨W.heap.size,1,none⟩=some (.int .i64 f)∧w'.cell? ⟨W.heap.size+1,0,none⟩=some (.string ⟨p'.toArray⟩)∧w'.cell? ⟨W.heap.size+1,1,none⟩=some (.int .i64 f')) (go_keep) (first | (go_at_call 97; refine (hs _).mono ?_; rintro e w' ⟨rfl,rfl⟩) | (go_at_call 55; refine (hi _).mono ?_; rintro e w' ⟨rfl,rfl⟩) | (go_at_call 54; refine (cmpOr2 _ _ c1 c2 _ (by (try simp only [World.cell?_drew]); rw [cell_newN (by simp)]; rfl) (by (try simp only [World.cell?_drew]); rw [cell_newN (by simp)]; rfl) (by omega)).mono ?_; rintro e w' ⟨rfl,rfl⟩))
 all_goals go_wp2
 all_goals go_ret
 all_goals exact ⟨rfl,by repeat (first | exact GrW.refl _ | apply GrW.alloc | apply GrW.drew)⟩
end Go.Proofs.YtbfcbkjemlgnpaaGreatDoor
namespace Go.Proofs.YtbfcbkjemlgnpaaGreatDoor
open Go.RowKit Go.Lib Go.Sort Go.Shelf
instance:Inhabited Sp:=⟨⟨[],0,0⟩⟩
theorem cmpB_eq:∀ a b:Bs,Lib.compareBytes a b=0↔a=b
 | [],[]=>by simp [Lib.compareBytes]
 | [],_::_=>by simp [Lib.compareBytes]
 | _::_,[]=>by simp [Lib.compareBytes]
 | a::x,b::y=>by
  have ih:=cmpB_eq x y;simp only [Lib.compareBytes];by_cases h1:a<b
  ·have:a≠b:=fun e=>by subst e; exact UInt8.lt_irrefl _ h1
   simp [h1,this]
  ·by_cases h2:b<a
   ·have:a≠b:=fun e=>by subst e; exact UInt8.lt_irrefl _ h2
    simp [h1,h2,this]
   ·have h3:a=b:=UInt8.le_antisymm (UInt8.not_lt.1 h2) (UInt8.not_lt.1 h1)
    subst h3;simpa [h1] using ih
theorem cfSp_lt(x y:Sp):Go.Proofs.ltOf cfSp x y=true↔Lt x.p x.f y.p y.f:=by
 have h1:=cmp_lt x.p y.p
 have h2:=cmpB_eq x.p y.p
 unfold Go.Proofs.ltOf cfSp or2 Lt
 rw [decide_eq_true_eq]
 by_cases c:Lib.compareBytes x.p y.p=0
 ·rw [if_pos c]
  have e:=h2.1 c;have:¬ x.p<y.p:=by rw [e]; exact s_irr _
  simp only [e,true_and,Lib.compareInt];split
  ·rename_i h; simp [h]
  ·split <;> simp_all
 ·rw [if_neg c]
  have e:¬ x.p=y.p:=fun h=>c (h2.2 h)
  simp only [e,false_and,or_false];have:(Lib.compareBytes x.p y.p<0)↔x.p<y.p:=by
   constructor
   ·intro h; have:=h1.symm.trans (decide_eq_true h); simpa using this
   ·intro h; have:=h1.trans (decide_eq_true h); simpa using this
  exact this
theorem cfSp_nlt(x y:Sp):Go.Proofs.ltOf cfSp x y=false↔SpLe y x:=by
 rw [Bool.eq_false_iff,Ne,cfSp_lt]
 constructor
 ·intro h; exact Le.of_not h
 ·rintro (h | ⟨h,h2⟩) (k | ⟨k,k2⟩)
  ·exact s_irr _ (s_tr h k)
  ·rw [k]at h; exact s_irr _ h
  ·rw [h]at k; exact s_irr _ k
  ·omega
theorem swoSp:Go.Sort.SWO (Go.Proofs.ltOf cfSp) where
 irrefl x:=(cfSp_nlt x x).2 (.inr ⟨rfl,by omega⟩)
 trans x y z h1 h2:=by
  rw [cfSp_lt]at h1 h2 ⊢;rcases h1 with h | ⟨h,h'⟩ <;> rcases h2 with k | ⟨k,k'⟩
  ·exact .inl (s_tr h k)
  ·exact .inl (k▸h)
  ·exact .inl (h▸k)
  ·exact .inr ⟨h.trans k,by omega⟩
 ntrans x y z h1 h2:=by
  rw [cfSp_nlt]at h1 h2 ⊢;exact Le.trans h2 h1
def sortQ(ps:List Sp):List Sp:=(pdq (Go.Proofs.ltOf cfSp) ps.toArray 0 ps.toArray.size (Lib.bitLen ps.toArray.size) true true).toList
theorem sortQ_facts(ps:List Sp):(sortQ ps).Perm ps∧(sortQ ps).Pairwise SpLe∧(sortQ ps).length=ps.length:=by
 obtain ⟨h1,h2⟩:=pdq_sorts (Go.Proofs.ltOf cfSp) swoSp ps.toArray 0 ps.toArray.size (Lib.bitLen ps.toArray.size) true true (Nat.zero_le _) (Nat.le_refl _) (Or.inl rfl)
 unfold sortQ
 generalize pdq (Go.Proofs.ltOf cfSp) ps.toArray 0 ps.toArray.size (Lib.bitLen ps.toArray.size) true true=d' at h1 h2 ⊢
 have hsz:d'.size=ps.length:=by rw [h1.1]; simp
 refine ⟨?_,?_,by simpa using hsz⟩
 ·have:=h1.2.2
  rw [show d'.extract 0 ps.toArray.size=d' by rw [← h1.1]; exact Array.extract_size]at this;simpa using this
 ·rw [List.pairwise_iff_getElem]
  intro i j hi' hj' hij;have hi2:i<d'.size:=by simpa using hi'
  have hj2:j<d'.size:=by simpa using hj'
  have:=h2 i j (Nat.zero_le _) hij (by simp; omega);rw [getElem!_pos d' j hj2,getElem!_pos d' i hi2,cfSp_nlt]at this;simpa using this
theorem encSp_len(x:Sp):(encSp x).length=3:=rfl
theorem flatSp(ps:List Sp):(Go.Sort.flatK encSp 3 ps.toArray).toList=(ps.map encSp).flatten:=by
 apply List.ext_getElem?
 intro i
 by_cases hi:i<ps.length*3
 ·have h1:i / 3<ps.length:=by omega
  have h2:i % 3<3:=by omega
  have e1:(Go.Sort.flatK encSp 3 ps.toArray).toList[i]?=some ((encSp ps[i / 3])[i % 3]'(by rw [encSp_len]; exact h2)):=by
   rw [List.getElem?_eq_getElem (by simp; exact hi)];have:=Go.Sort.get_flatK encSp 3 ps.toArray i (by simpa using hi);rw [getElem!_pos _ i (by simpa using hi)]at this;rw [Array.getElem_toList,this];rw [getElem!_pos ps.toArray (i / 3) (by simpa using h1),List.getElem_toArray,getElem!_pos _ (i % 3) (by rw [encSp_len]; exact h2)]
  have h3:=flat2_get encSp encSp_len ps (i / 3) (i % 3) ps[i / 3] _ (by simp [h1]) (List.getElem?_eq_getElem (by rw [encSp_len]; exact h2));rw [show i / 3*3+i % 3=i by omega]at h3;rw [e1,h3]
 ·rw [List.getElem?_eq_none_iff.2 (by simp; omega),List.getElem?_eq_none_iff.2 (by rw [flat2_len encSp encSp_len]; omega)]
theorem relSp{C:Cx}:∀ ps:List Sp,RelL C (ps.map Sp.row).flatten (ps.map encSp).flatten
 | []=>.nil
 | ⟨p,f,t⟩::r=>.cons (.str p) (.cons (.int .i64 f) (.cons (.int .i64 t) (relSp r)))
theorem relSp_eq{C:Cx}:∀ (ps:List Sp) {us:List Value},RelL C (ps.map Sp.row).flatten us→us=(ps.map encSp).flatten
 | [],us,h=>h.inv_nil
 | ⟨p,f,t⟩::r,us,h=>by
  obtain ⟨v1,us1,rfl,h1,h⟩:=RelL.inv_cons (a:=.str p) h;obtain ⟨v2,us2,rfl,h2,h⟩:=RelL.inv_cons (a:=.int .i64 f) h;obtain ⟨v3,us3,rfl,h3,h⟩:=RelL.inv_cons (a:=.int .i64 t) h;rw [str_inv h1,int_inv h2,int_inv h3,relSp_eq r h]; rfl
theorem oneSp(ps:List Sp):∀ u∈(ps.map encSp).flatten,u.oneCell'=true:=fun u hu=>by
 obtain ⟨l,hl,hu⟩:=List.mem_flatten.1 hu
 obtain ⟨x,_,rfl⟩:=List.mem_map.1 hl
 simp [encSp]at hu
 rcases hu with rfl | rfl | rfl <;> rfl
theorem holds_Sp{B:Base}{C:Cx}{h:Heap}{w:World}(hi:Inv B C h w){l ver:Nat}{ps:List Sp}{r:RowAt}{wr:Bool}(hl:h[l]?=some (.arr 3 ver (ps.map Sp.row) wr))(har:C.ar l ver=some (some r)):Go.Sort.HoldsK encSp 3 w r.block 0 ps.toArray∧r.block<w.heap.size:=by
 rcases hi.ok l _ hl with ⟨k1,_⟩ | ⟨r',cur,k1,k2,k3,k4,k5,k6,k7,k8,k8',k9,k10,k11,k12⟩
 ·rw [har]at k1; cases k1
 rw [har]at k1; injection k1 with k1; injection k1 with k1; subst k1
 refine ⟨fun j hj=>?_,heap_lt k6⟩
 have e:=relSp_eq ps k8
 rw [← flatSp]at e
 have hj':j<(Go.Sort.flatK encSp 3 ps.toArray).toList.length:=by simpa using hj
 have h3:j<r.cap*r.size:=by rw [k11]; simp at hj k3; omega
 refine ⟨?_,by rw [Nat.zero_add]; exact RowAt.thaw k6 h3⟩
 rw [Nat.zero_add,cell_of_heap k6,← Array.getElem?_toList]
 have h1:(cur.toList.take ((ps.map Sp.row).length*r.size))[j]?=some ((Go.Sort.flatK encSp 3 ps.toArray).toList[j]'hj'):=by
  rw [e]; exact List.getElem?_eq_getElem hj'
 rw [List.getElem?_take]at h1
 split at h1
 ·rw [h1,getElem!_pos _ j hj]; simp
 ·cases h1
def F_SortSp(g0:FuncId):List AV→Heap→Option (AV×Heap)
 | [.own l ver n,.fn g []],h=>match h[l]? with
  | some (.arrX false none 3 ver' rows true)=>match decAll decSpn rows with
   | some ps=>if g=g0∧ver=ver'∧n=ps.length∧n≤big then some (.tup [],h.set l (.arr 3 ver (spRows (sortQ ps)) true))else none
   | none=>none
  | _=>none
 | [.nils,.fn g []],h=>if g=g0 then some (.tup [],h)else none
 | _,_=>none
theorem aggSp:∀ w,(isAgg 39).run Tryz.prog w=.ok true w:=run_isAgg (by kernel_rfl)
theorem sizeSp:∀ w,(Go.sizeOf 39).run Tryz.prog w=.ok 3 w:=run_sizeOf' (by kernel_rfl)
theorem sortSp_W(blk off cap:Nat)(d:Array Sp)(w:World)(hH:HoldsK encSp 3 w blk off d)(hblk:blk<w.heap.size)(hsz:d.size<4611686018427387904) :
  Calls Tryz.prog 204 #[.slice (some ⟨blk,off,none⟩) d.size cap,.func (.func 205) #[] #[]] w fun e w'=>e=.returned (.tuple #[])∧∃ n os,w'=Go.Proofs.sortWorldK encSp 3 w blk off n (pdq (Go.Proofs.ltOf cfSp) d 0 d.size (Lib.bitLen d.size) true true) os:=
 AnyQ.slices_SortFunc_eq Tryz.sortSpan 3 aggSp sizeSp encSp encSp_len (fun x v hv=>by simp [encSp]at hv; rcases hv with rfl | rfl | rfl <;> rfl) cfSp swoSp 205 #[] blk off cap d w
  (Go.Proofs.enters_of Tryz.func205 (by kernel_rfl) rfl) (fun m os dk _ x y=>cmpSp x y _) hH hblk hsz
theorem sortSp_N(p:Option Addr)(cap:Nat)(w:World):Calls Tryz.prog 204 #[.slice p 0 cap,.func (.func 205) #[] #[]] w fun e w'=>e=.returned (.tuple #[])∧w'=w:=
 AnyF.slices_SortFunc_none Tryz.sortSpan p cap _ w
theorem fn0_inv{C:Cx}{g:FuncId}{v:Value}(h:Rel C (.fn g []) v):v=.func (.func g) #[] #[]:=by
 cases h with
 | fn _ _ vs hs _=>
  have:vs=#[]:=by apply Array.eq_empty_of_size_eq_zero; simpa using hs.symm
  subst this; rfl
theorem sortSp_ok(gv:Gv):GenOK Tryz.prog gv 204 (F_SortSp 205):=by
 intro B C h w args r h' vals hgv hi hr hF
 unfold F_SortSp at hF
 split at hF
 ·rename_i l ver n g
  split at hF
  ·rename_i ver' rows hl
   split at hF
   ·rename_i ps hd
    have:=spRows_of hd; subst this;split at hF
    ·rename_i hc
     obtain ⟨rfl,rfl,rfl,hbig⟩:=hc;simp only [Option.some.injEq,Prod.mk.injEq]at hF; obtain ⟨rfl,rfl⟩:=hF;obtain ⟨v,us,e1,hv,hr⟩:=hr.inv_cons;obtain ⟨v2,us,rfl,hv2,hr⟩:=hr.inv_cons;have:=hr.inv_nil; subst this;have hvals:vals=#[v,v2]:=by apply Array.ext'; simpa using e1
     subst hvals;obtain rfl:=fn0_inv hv2;obtain ⟨s1,s2,s3⟩:=sortQ_facts ps;by_cases hps:ps=[]
     ·subst hps
      have hnil:sortQ []=[]:=List.length_eq_zero_iff.1 s3;have hh:h.set l (.arr 3 ver (spRows (sortQ [])) true)=h:=by
       obtain ⟨hlt,e⟩:=List.getElem?_eq_some_iff.1 hl;refine List.ext_getElem? fun i=>?_
       rw [List.getElem?_set];split
       ·rename_i e2; subst e2; rw [hl]; simp [hnil,spRows]
       ·rfl
      have hv0:∃ p cap,v=.slice p 0 cap:=by
       cases hv with
       | ownnil _ _ har=>exact ⟨_,_,rfl⟩
       | own _ _ _ r har hcap=>exact ⟨_,_,rfl⟩
      obtain ⟨p,cap,rfl⟩:=hv0;rw [hh];refine (sortSp_N p cap w).mono fun e w' hk=>?_
      obtain ⟨rfl,rfl⟩:=hk;exact ⟨_,C,rfl,.refl C,hi,.tup [] #[] rfl (fun i c v h=>by simp at h),.refl _ _⟩
     have h0:0<ps.length:=List.length_pos_iff.2 hps;generalize hn:ps.length=n at hv;cases hv with
     | ownnil _ _ har=>omega
     | own _ _ _ r har hcap=>
      obtain ⟨q1,q2⟩:=holds_Sp hi hl har;have hc:=sortSp_W r.block 0 r.cap ps.toArray w q1 q2 (by unfold big at hbig; simp; omega);have hsq:pdq (Go.Proofs.ltOf cfSp) ps.toArray 0 ps.toArray.size (Lib.bitLen ps.toArray.size) true true=(sortQ ps).toArray:=by unfold sortQ; simp
      rw [hsq]at hc;rw [List.size_toArray,hn]at hc;refine hc.mono fun e w' hk=>?_
      obtain ⟨rfl,q,os,rfl⟩:=hk;obtain ⟨t1,t2⟩:=turn_flat hi (rows':=(sortQ ps).map Sp.row) (F:=Go.Sort.flatK encSp 3 (sortQ ps).toArray) hl har (by simpa [spRows] using s3) (fun x hx=>by obtain ⟨y,_,rfl⟩:=List.mem_map.1 hx; rfl)
       (by rw [flatSp]; exact relSp _) (by rw [flatSp]; exact oneSp _) (w':=Go.Proofs.sortWorldK encSp 3 w r.block 0 q (sortQ ps).toArray os) rfl rfl rfl (os:=os) rfl
      exact ⟨_,C,rfl,.refl C,t1,.tup [] #[] rfl (fun i c v h=>by simp at h),t2⟩
    ·cases hF
   ·cases hF
  ·cases hF
 ·rename_i g
  split at hF
  ·rename_i hg
   subst hg;simp only [Option.some.injEq,Prod.mk.injEq]at hF; obtain ⟨rfl,rfl⟩:=hF;obtain ⟨v,us,e1,hv,hr⟩:=hr.inv_cons;obtain ⟨v2,us,rfl,hv2,hr⟩:=hr.inv_cons;have:=hr.inv_nil; subst this;have hvals:vals=#[v,v2]:=by apply Array.ext'; simpa using e1
   subst hvals;obtain rfl:=fn0_inv hv2;have hv0:∃ p cap,v=.slice p 0 cap:=by
    cases hv with
    | nils=>exact ⟨_,_,rfl⟩
   obtain ⟨p,cap,rfl⟩:=hv0;refine (sortSp_N p cap w).mono fun e w' hk=>?_
   obtain ⟨rfl,rfl⟩:=hk;exact ⟨_,C,rfl,.refl C,hi,.tup [] #[] rfl (fun i c v h=>by simp at h),.refl _ _⟩
  ·cases hF
 ·cases hF
end Go.Proofs.YtbfcbkjemlgnpaaGreatDoor
