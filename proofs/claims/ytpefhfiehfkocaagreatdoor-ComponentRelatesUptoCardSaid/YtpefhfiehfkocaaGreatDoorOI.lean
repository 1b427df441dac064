/- Comparing flows: cmp.Compare,cmp.Or,origin.compare,the closure of Flows. slices.SortFunc of flows,of at most twelve: insertion sort,walked. Tracer.Flows,whatever order the map's entries come in: -/
import Derived.Test.YtpefhfiehfkocaaGreatDoorOA
import Derived.Test.YtpefhfiehfkocaaGreatDoorOF
import Derived.Test.YtpefhfiehfkocaaGreatDoorRmA
import Derived.Test.YtpefhfiehfkocaaGreatDoorOB
import Derived.Test.YtpefhfiehfkocaaGreatDoorRmI
import Derived.Test.YtpefhfiehfkocaaGreatDoorOD
import Derived.Test.YtpefhfiehfkocaaGreatDoorRmK
namespace Go.Proofs.YtpefhfiehfkocaaGreatDoor
open Go.RowKit Go.IntWalk
def F_isNaN:List AV→Option AV
 | [.int .i64 _]=>some (.bool false)
 | _=>none
theorem isNaN_ok{G:Gam}:∀ args r,F_isNaN args=some r→wpM G Mc.q73 (pureQ Rs.q73 r) [] (frInit Ks.q73 args) []:=by
 intro args r hF
 unfold F_isNaN at hF
 split at hF
 ·rename_i n
  injection hF with hF; subst hF
  have q:eqB n n=true:=eqB_iff.2 rfl;rw [wpM_go];simp [Mc.q73,Ks.q73,frInit,pureQ,Rs.q73]
 ·cases hF
def F_cmpI:List AV→Option AV
 | [.int .i64 x,.int .i64 y]=>some (.int .i64 (Lib.compareInt x y))
 | _=>none
theorem cmpI_ok{G:Gam}(hN:G Fn.q73=some (.pure F_isNaN)):∀ args r,F_cmpI args=some r→wpM G Mc.q63 (pureQ Rs.q63 r) [] (frInit Ks.q63 args) []:=by
 intro args r hF
 unfold F_cmpI at hF
 split at hF
 ·rename_i x y
  injection hF with hF; subst hF
  have cn:∀ n st H,opV G st H (.call Fn.q73) (some [.int .i64 n])=some (.bool false,H):=fun n st H=>op_call hN (us:=[.int .i64 n]) rfl rfl (.inl rfl)
  rw [wpM_go];by_cases h1:x<y
  ·have q:ltB x y=true:=ltB_iff.2 h1
   have e:Lib.compareInt x y=-1:=by simp [Lib.compareInt,h1]
   rw [e];simp [Mc.q63,Ks.q63,frInit,cn,q,pureQ,Rs.q63]
  ·have q:ltB x y=false:=ltB_not.2 (by omega)
   by_cases h2:y<x
   ·have q2:ltB y x=true:=ltB_iff.2 h2
    have e:Lib.compareInt x y=1:=by simp [Lib.compareInt,h1,h2]
    rw [e];simp [Mc.q63,Ks.q63,frInit,cn,q,q2,pureQ,Rs.q63]
   ·have q2:ltB y x=false:=ltB_not.2 (by omega)
    have e:Lib.compareInt x y=0:=by simp [Lib.compareInt,h1,h2]
    rw [e];simp [Mc.q63,Ks.q63,frInit,cn,q,q2,pureQ,Rs.q63]
 ·cases hF
theorem use_cmpI{G:Gam}(h:G Fn.q63=some (.pure F_cmpI))(x y:Int)(st:Bool)(H:Heap):opV G st H (.call Fn.q63) (some [.int .i64 x,.int .i64 y])=some (.int .i64 (Lib.compareInt x y),H):=
 op_call h (us:=[.int .i64 x,.int .i64 y]) rfl rfl (.inl rfl)
def orI:List Int→Int
 | []=>0
 | a::r=>if a=0 then orI r else a
def F_orI:List AV→Option AV
 | [.sl rows]=>match decAll decI rows with
  | some l=>if l.length≤1000 then some (.int .i64 (orI l))else none
  | none=>none
 | _=>none
theorem orI_L0{G:Gam}(l:List Int)(hl:l.length≤1000):∀ (rest:List Int) (i:Nat),l.drop i=rest→i≤l.length→
  headM G [5] Mc.cmp_Or_int__L0 0 [.blk 0,.seq (.seq (.reg [zm 17 3,zM 2 17]) .ret)] (pureQ Rs.cmp_Or_int_ (.int .i64 (orI rest)))
   [(0,.sl (l.map eI)),(2,.int .i64 0),(3,.int .i64 0),(5,.junk),(6,.sl (l.map eI)),(7,.int .i64 l.length),(8,.int .i64 i)] []
 | [],i,hd,hi=>by
  have hi2:=drop_nil hd;have hq:ltB (i:Int) (l.length:Int)=false:=ltB_not.2 (by omega);refine head_go (Mc.cmp_Or_int__L0.eq_1) ?_
  simp [hq,orI,vtrunc_len (n:=0) (h:=[]) rfl,pureQ,Rs.cmp_Or_int_]
 | a::rest,i,hd,hi=>by
  obtain ⟨hlt,hx,hxd⟩:=drop_cons hd;have hq:ltB (i:Int) (l.length:Int)=true:=ltB_iff.2 (by omega);have hw:=wrap1 (i:=i) (by unfold big; omega);have r1:(l.map eI)[i]?=some (eI a):=by simp [hx]
  have ia:∀ H,iadrAV 1 H (.sl (l.map eI)) (.int .i64 (i:Int))=some (.fptr (eI a) 0):=fun H=>by
   have:(eI a).length=1:=rfl;generalize l.map eI=RR at r1 ⊢;simp [iadrAV,r1,this]
  have la:∀ H,loadAV 1 false H (.fptr (eI a) 0)=some (.int .i64 a):=fun H=>by simp [loadAV,cut,mkVal,eI]
  have ih:=orI_L0 (G:=G) l hl rest (i+1) hxd (by omega);refine head_go (Mc.cmp_Or_int__L0.eq_1) ?_
  rw [vtrunc_len (n:=0) (h:=[]) rfl];by_cases h0:a=0
  ·have q:eqB a 0=true:=eqB_iff.2 h0
   have e:orI (a::rest)=orI rest:=by simp [orI,h0]
   rw [e];generalize l.map eI=RA at *;simp [hq,ia,la,q,hw,-loadAV];refine head_of ?_
   rw [vtrunc_len (n:=0) rfl];simpa [junkAll,Rs.cmp_Or_int_] using ih
  ·have q:eqB a 0=false:=eqB_not.2 h0
   have e:orI (a::rest)=a:=by simp [orI,h0]
   rw [e];generalize l.map eI=RA at *;simp [hq,ia,la,q,pureQ,Rs.cmp_Or_int_,-loadAV]
theorem orI_ok{G:Gam}:∀ args r,F_orI args=some r→wpM G Mc.cmp_Or_int_ (pureQ Rs.cmp_Or_int_ r) [] (frInit Ks.cmp_Or_int_ args) []:=by
 intro args r hF
 unfold F_orI at hF
 split at hF
 ·split at hF
  ·rename_i l hd
   split at hF
   ·rename_i hok
    injection hF with hF; subst hF
    obtain rfl:=decAll_of (enc:=eI) (fun r x=>decI_of) hd;have ih:=orI_L0 (G:=G) l hok l 0 rfl (by omega);rw [wpM_go];simp [Mc.cmp_Or_int_,Ks.cmp_Or_int_,frInit,lenAV];simpa using ih
   ·cases hF
  ·cases hF
 ·cases hF
theorem use_orI{G:Gam}(h:G Fn.cmp_Or_int_=some (.pure F_orI)){l:List Int}(hl:l.length≤1000)(st:Bool)(H:Heap):opV G st H (.call Fn.cmp_Or_int_) (some [.tsl (l.map eI)])=some (.int .i64 (orI l),H):=
 op_call h (us:=[.sl (l.map eI)]) rfl (by
  have:decAll decI (l.map eI)=some l:=decAll_enc decI_row l;simp only [F_orI,this]; rw [if_pos hl]) (.inl rfl)
structure Seg where
 p:Bs
 m:Bs
 k:Int
 i:Int
deriving DecidableEq
structure Fl where
 to_:Seg
 fr:Seg
 rt:Int
deriving DecidableEq
def Seg.row(s:Seg):List AV:=[.str s.p,.str s.m,.int .i64 s.k,.int .i64 s.i]
def Fl.row(f:Fl):List AV:=[.str f.to_.p,.str f.to_.m,.int .i64 f.to_.k,.int .i64 f.to_.i,.str f.fr.p,.str f.fr.m,.int .i64 f.fr.k,.int .i64 f.fr.i,.int .i64 f.rt]
def decSeg:List AV→Option Seg
 | [.str p,.str m,.int .i64 k,.int .i64 i]=>some ⟨p,m,k,i⟩
 | _=>none
def decFl:List AV→Option Fl
 | [.str p,.str m,.int .i64 k,.int .i64 i,.str p',.str m',.int .i64 k',.int .i64 i',.int .i64 r]=>some ⟨⟨p,m,k,i⟩,⟨p',m',k',i'⟩,r⟩
 | _=>none
@[simp] theorem decSeg_row(s:Seg):decSeg s.row=some s:=rfl
@[simp] theorem decFl_row(s:Fl):decFl s.row=some s:=rfl
theorem decSeg_of{r:List AV}{s:Seg}(h:decSeg r=some s):r=s.row:=by
 unfold decSeg at h; split at h
 ·injection h with h; subst h; rfl
 ·cases h
theorem decFl_of{r:List AV}{s:Fl}(h:decFl r=some s):r=s.row:=by
 unfold decFl at h; split at h
 ·injection h with h; subst h; rfl
 ·cases h
def flRows(l:List Fl):List (List AV):=l.map Fl.row
@[simp] theorem flRows_len{l:List Fl}:(flRows l).length=l.length:=by simp [flRows]
theorem flRows_get{l:List Fl}{i:Nat}{s:Fl}(h:l[i]?=some s):(flRows l)[i]?=some s.row:=by simp [flRows,h]
@[simp] theorem dec_flRows(l:List Fl):decAll decFl (flRows l)=some l:=decAll_enc decFl_row l
theorem flRows_of{rs:List (List AV)}{l:List Fl}(h:decAll decFl rs=some l):rs=flRows l:=decAll_of (enc:=Fl.row) (fun _ _=>decFl_of) h
def cfSeg(a b:Seg):Int:=if a=b then 0 else orI [Lib.compareBytes a.p b.p,Lib.compareBytes a.m b.m,Lib.compareInt a.k b.k,Lib.compareInt a.i b.i]
def F_seg:List AV→Option AV
 | [.agg ra,.agg rb]=>match decSeg ra,decSeg rb with
  | some a,some b=>some (.int .i64 (cfSeg a b))
  | _,_=>none
 | _=>none
theorem seg_eq{G:Gam}(x y:Seg)(st:Bool)(H:Heap):opV G st H (.eqA false [.s,.s,.i,.i]) (some [.agg x.row,.agg y.row])=some (.bool (decide (x=y)),H):=by
 rw [opV_quiet rfl]
 obtain ⟨p,f,t,u⟩:=x
 obtain ⟨p',f',t',u'⟩:=y
 simp only [evalPure,Seg.row,List.length_cons,List.length_nil,and_self,if_true,eqCells,Seg.mk.injEq]
 by_cases h1:p=p'
 ·by_cases h2:f=f'
  ·by_cases h3:t=t'
   ·by_cases h4:u=u'
    ·simp [h1,h2,h3,h4]
    ·simp [h1,h2,h3,h4]
   ·simp [h1,h2,h3]
  ·simp [h1,h2]
 ·simp [h1]
theorem compare_ok{G:Gam}(hS:G Fn.q65=some (.pure F_Compare))(hI:G Fn.q63=some (.pure F_cmpI))(hO:G Fn.cmp_Or_int_=some (.pure F_orI)):∀ args r,F_seg args=some r→wpM G Mc.q71 (pureQ Rs.q71 r) [] (frInit Ks.q71 args) []:=by
 intro args r hF
 unfold F_seg at hF
 split at hF
 ·split at hF
  ·rename_i ra rb a b ha hb
   injection hF with hF; subst hF
   obtain rfl:=decSeg_of ha;obtain rfl:=decSeg_of hb;have ob:∀ st,opV G st [] .box (some [.agg a.row])=some (.ptr 0 0,[.cells a.row]):=fun st=>op_boxed (h:=[]) (v:=.agg a.row) (by simp [AV.cells,Seg.row])
   have ob2:∀ st,opV G st [.cells a.row] .box (some [.agg b.row])=some (.ptr 1 0,[.cells a.row,.cells b.row]):=fun st=>op_boxed (h:=[.cells a.row]) (v:=.agg b.row) (by simp [AV.cells,Seg.row])
   have la:loadAV 4 true [.cells a.row,.cells b.row] (.ptr 0 0)=some (.agg a.row):=ld_all (l:=0) (vs:=a.row) rfl rfl;have lb:loadAV 4 true [.cells a.row,.cells b.row] (.ptr 1 0)=some (.agg b.row):=ld_all (l:=1) (vs:=b.row) rfl rfl;have p0:loadAV 1 false [.cells a.row,.cells b.row] (.ptr 0 0)=some (.str a.p):=ld_cell (l:=0) rfl rfl;have p1:loadAV 1 false [.cells a.row,.cells b.row] (.ptr 0 1)=some (.str a.m):=ld_cell (l:=0) rfl rfl;have p2:loadAV 1 false [.cells a.row,.cells b.row] (.ptr 0 2)=some (.int .i64 a.k):=ld_cell (l:=0) rfl rfl;have p3:loadAV 1 false [.cells a.row,.cells b.row] (.ptr 0 3)=some (.int .i64 a.i):=ld_cell (l:=0) rfl rfl;have q0:loadAV 1 false [.cells a.row,.cells b.row] (.ptr 1 0)=some (.str b.p):=ld_cell (l:=1) rfl rfl;have q1:loadAV 1 false [.cells a.row,.cells b.row] (.ptr 1 1)=some (.str b.m):=ld_cell (l:=1) rfl rfl;have q2:loadAV 1 false [.cells a.row,.cells b.row] (.ptr 1 2)=some (.int .i64 b.k):=ld_cell (l:=1) rfl rfl;have q3:loadAV 1 false [.cells a.row,.cells b.row] (.ptr 1 3)=some (.int .i64 b.i):=ld_cell (l:=1) rfl rfl;have cs:∀ (s t:Bs) st H,opV G st H (.call Fn.q65) (some [.str s,.str t])=some (.int .i64 (Lib.compareBytes s t),H):=fun s t st H=>op_call hS (us:=[.str s,.str t]) rfl rfl (.inl rfl)
   have ci:=use_cmpI hI;have eq:=seg_eq (G:=G) a b;have bs:∀ (c d e f:Int) st h,opV G st h (.bsl false 1) (some [.int .i64 c,.int .i64 d,.int .i64 e,.int .i64 f])=some (.tsl ([c,d,e,f].map eI),h):=fun c d e f st h=>by rw [op_bsl rfl]; rfl
   have co:=fun (c d e f:Int) st H=>use_orI (G:=G) hO (l:=[c,d,e,f]) (by simp) st H
   rw [wpM_go];unfold cfSeg;by_cases h:a=b
   ·rw [decide_eq_true h]at eq
    rw [if_pos h];generalize a.row=RA at *;generalize b.row=RB at *;simp [Mc.q71,Ks.q71,frInit,ob,ob2,la,lb,eq,pureQ,Rs.q71,-loadAV]
   ·rw [decide_eq_false h]at eq
    rw [if_neg h];generalize a.row=RA at *;generalize b.row=RB at *;simp [Mc.q71,Ks.q71,frInit,ob,ob2,la,lb,eq,p0,p1,p2,p3,q0,q1,q2,q3,cs,ci,bs,-List.map_cons,-List.map_nil,co,pureQ,Rs.q71,-loadAV,-op_bsl]
  ·cases hF
 ·cases hF
def plc(es:List (AV×AV))(s:Seg):Option Int:=match agget [.s,.s,.i,.i] s.row es with
 | some none=>some 0
 | some (some (.int .i64 n))=>some n
 | _=>none
def cfFl(n1 n2:Int)(a b:Fl):Int:=orI [Lib.compareInt n1 n2,cfSeg a.fr b.fr,Lib.compareInt a.rt b.rt]
def F_fl1:List AV→Heap→Option AV
 | [.agg ra,.agg rb,.ptr q 0],h=>match decFl ra,decFl rb,h[q]? with
  | some a,some b,some (.cellsT _ [.map m])=>match h[m]? with
   | some (.map es)=>match plc es a.to_,plc es b.to_ with
    | some n1,some n2=>some (.int .i64 (cfFl n1 n2 a b))
    | _,_=>none
   | _=>none
  | _,_,_=>none
 | _,_=>none
theorem op_plc{G:Gam}{h:Heap}{m:Nat}{es:List (AV×AV)}{s:Seg}{n:Int}(hm:h[m]?=some (.map es))(hp:plc es s=some n)(st:Bool):opV G st h (.lookA [.s,.s,.i,.i] false (.int .i64 0)) (some [.map m,.agg s.row])=some (.int .i64 n,h):=by
 rw [opV_quiet rfl]
 have hl:s.row.length=[EK.s,.s,.i,.i].length:=rfl
 simp only [evalPure,hl,if_true,hm]
 unfold plc at hp
 split at hp
 ·rename_i e; injection hp with hp; subst hp; rw [e]; rfl
 ·rename_i e; injection hp with hp; subst hp; rw [e]; rfl
 ·cases hp
theorem fl1_ok{G:Gam}(hS:G Fn.q71=some (.pure F_seg))(hI:G Fn.q63=some (.pure F_cmpI))(hO:G Fn.cmp_Or_int_=some (.pure F_orI)):∀ args h r,F_fl1 args h=some r→wpM G Mc.q39 (lookQ Rs.q39 r h) [] (frInit Ks.q39 args) h:=by
 intro args h r hF
 unfold F_fl1 at hF
 split at hF
 ·rename_i ra rb q
  split at hF
  ·rename_i a b tg m ha hb hq
   split at hF
   ·rename_i es hm
    split at hF
    ·rename_i n1 n2 h1 h2
     injection hF with hF; subst hF
     obtain rfl:=decFl_of ha;obtain rfl:=decFl_of hb;have ob:∀ st,opV G st h .box (some [.agg a.row])=some (.ptr h.length 0,h++[.cells a.row]):=fun st=>op_boxed (h:=h) (v:=.agg a.row) (by simp [AV.cells,Fl.row])
     have ob2:∀ st,opV G st (h++[.cells a.row]) .box (some [.agg b.row])=some (.ptr (h.length+1) 0,h++[.cells a.row,.cells b.row]):=fun st=>by
      have:=op_boxed (G:=G) (s:=st) (h:=h++[.cells a.row]) (v:=.agg b.row) (by simp [AV.cells,Fl.row]);simpa using this
     have hlq:q<h.length:=(List.getElem?_eq_some_iff.1 hq).1;have hlm:m<h.length:=(List.getElem?_eq_some_iff.1 hm).1;have gq:(h++[Blk.cells a.row,.cells b.row])[q]?=some (.cellsT tg [.map m]):=by rw [List.getElem?_append_left hlq]; exact hq
     have gm:(h++[Blk.cells a.row,.cells b.row])[m]?=some (.map es):=by rw [List.getElem?_append_left hlm]; exact hm
     have ga:(h++[Blk.cells a.row,.cells b.row])[h.length]?=some (.cells a.row):=by simp
     have gb:(h++[Blk.cells a.row,.cells b.row])[h.length+1]?=some (.cells b.row):=by rw [List.getElem?_append_right (by simp)]; simp
     have lq:loadAV 1 false (h++[.cells a.row,.cells b.row]) (.ptr q 0)=some (.map m):=by simp [loadAV,gq,cut,mkVal]
     have at0:loadAV 4 true (h++[.cells a.row,.cells b.row]) (.ptr h.length 0)=some (.agg a.to_.row):=by simp only [loadAV,ga]; rfl
     have bt0:loadAV 4 true (h++[.cells a.row,.cells b.row]) (.ptr (h.length+1) 0)=some (.agg b.to_.row):=by simp only [loadAV,gb]; rfl
     have af:loadAV 4 true (h++[.cells a.row,.cells b.row]) (.ptr h.length 4)=some (.agg a.fr.row):=by simp only [loadAV,ga]; rfl
     have bf:loadAV 4 true (h++[.cells a.row,.cells b.row]) (.ptr (h.length+1) 4)=some (.agg b.fr.row):=by simp only [loadAV,gb]; rfl
     have ar:loadAV 1 false (h++[.cells a.row,.cells b.row]) (.ptr h.length 8)=some (.int .i64 a.rt):=ld_cell ga rfl;have br:loadAV 1 false (h++[.cells a.row,.cells b.row]) (.ptr (h.length+1) 8)=some (.int .i64 b.rt):=ld_cell gb rfl;have k1:=op_plc (G:=G) gm h1;have k2:=op_plc (G:=G) gm h2;have ci:=use_cmpI hI;have cc:∀ st H,opV G st H (.call Fn.q71) (some [.agg a.fr.row,.agg b.fr.row])=some (.int .i64 (cfSeg a.fr b.fr),H):=fun st H=>op_call hS (us:=[.agg a.fr.row,.agg b.fr.row]) (by simp [Seg.row,viewL,view]) (by simp [F_seg]) (.inl rfl)
     have bs:∀ (c d e:Int) st h,opV G st h (.bsl false 1) (some [.int .i64 c,.int .i64 d,.int .i64 e])=some (.tsl ([c,d,e].map eI),h):=fun c d e st h=>by rw [op_bsl rfl]; rfl
     have co:=fun (c d e:Int) st H=>use_orI (G:=G) hO (l:=[c,d,e]) (by simp) st H
     rw [wpM_go];unfold cfFl;generalize a.row=RA at *;generalize b.row=RB at *;simp [Mc.q39,Ks.q39,frInit,ob,ob2,lq,at0,bt0,af,bf,ar,br,k1,k2,ci,cc,bs,-List.map_cons,-List.map_nil,co,lookQ,Rs.q39,owns,freezeAll,-loadAV,-op_bsl]
    ·cases hF
   ·cases hF
  ·cases hF
 ·cases hF
end Go.Proofs.YtpefhfiehfkocaaGreatDoor
namespace Go.Proofs.YtpefhfiehfkocaaGreatDoor
open Go.RowKit Go.IntWalk
section
variable (cf:Fl→Fl→Int)
def insRev(e:Fl):List Fl→List Fl
 | []=>[e]
 | y::r=>if cf e y<0 then y::insRev e r else e::y::r
def isort:List Fl→List Fl→List Fl
 | rp,[]=>rp.reverse
 | rp,e::rest=>isort (insRev cf e rp) rest
end
structure FlEnv (h:Heap) (l q m:Nat) (es:List (AV×AV)) (tg:Option TypeId):Prop where
 hq:h[q]?=some (.cellsT tg [.map m])
 hm:h[m]?=some (.map es)
 nq:q≠l
 nm:m≠l
def Hs(h:Heap)(l ver:Nat)(rows:List Fl):Heap:=h.set l (.arr 9 ver (flRows rows) true)
def plN(es:List (AV×AV))(s:Seg):Int:=(plc es s).getD 0
def cfE(es:List (AV×AV))(a b:Fl):Int:=cfFl (plN es a.to_) (plN es b.to_) a b
def okFl(es:List (AV×AV))(f:Fl):Prop:=plc es f.to_=some (plN es f.to_)
section
variable {h:Heap} {l q m ver:Nat} {es:List (AV×AV)} {tg:Option TypeId} {rows:List Fl}
theorem Hs_len:(Hs h l ver rows).length=h.length:=by simp [Hs]
theorem Hs_get(hl:l<h.length):(Hs h l ver rows)[l]?=some (.arr 9 ver (flRows rows) true):=by simp [Hs,hl]
theorem Hs_set{rows':List Fl}:(Hs h l ver rows).set l (.arr 9 ver (flRows rows') true)=Hs h l ver rows':=by simp [Hs]
theorem fl_call{G:Gam}(hC:G Fn.q39=some (.gen (lookF F_fl1)))(he:FlEnv h l q m es tg){a b:Fl}(ha:okFl es a)(hb:okFl es b)(st:Bool):opV G st (Hs h l ver rows) .callv (some [.fn Fn.q39 [.ptr q 0],.agg a.row,.agg b.row])=some (.int .i64 (cfE es a b),Hs h l ver rows):=by
 have e1:opV G st (Hs h l ver rows) .callv (some [.fn Fn.q39 [.ptr q 0],.agg a.row,.agg b.row])=callAV G Fn.q39 [.agg a.row,.agg b.row,.ptr q 0] (Hs h l ver rows):=by cases st <;> rfl
 have g1:(Hs h l ver rows)[q]?=some (.cellsT tg [.map m]):=by unfold Hs; rw [List.getElem?_set_ne (fun e=>he.nq e.symm)]; exact he.hq
 have g2:(Hs h l ver rows)[m]?=some (.map es):=by unfold Hs; rw [List.getElem?_set_ne (fun e=>he.nm e.symm)]; exact he.hm
 rw [e1,call_gen hC]
 simp only [lookF,F_fl1,decFl_row,g1,g2]
 rw [ha,hb]
 rfl
theorem fl_ia(hl:l<h.length){i:Nat}{f:Fl}(hf:rows[i]?=some f):iadrAV 9 (Hs h l ver rows) (.own l ver rows.length) (.int .i64 (i:Int))=some (.eptr l ver i 0):=iadr_own (Hs_get hl) (by simp) (flRows_get hf) rfl
theorem fl_ld(hl:l<h.length){i:Nat}{f:Fl}(hf:rows[i]?=some f):loadAV 9 true (Hs h l ver rows) (.eptr l ver i 0)=some (.agg f.row):=by
 rw [ld_eptr (Hs_get hl) (flRows_get hf)]; simp [cut,mkVal,Fl.row]
theorem fl_st{G:Gam}(hl:l<h.length){i:Nat}{f:Fl}(hf:rows[i]?=some f)(g:Fl)(st:Bool):opV G st (Hs h l ver rows) (.st 9) (some [.eptr l ver i 0,.agg g.row])=some (.junk,Hs h l ver (rows.set i g)):=by
 rw [op_st_eptr (n:=9) (Hs_get hl) (flRows_get hf) rfl (by omega) rfl (by simp [Fl.row]) (by simp [view,viewL,Fl.row]) (by simp [owns,ownsL,Fl.row])]
 have e:(flRows rows).set i (setAt f.row 0 (AV.agg g.row).cells)=flRows (rows.set i g):=by
  have e2:setAt f.row 0 (AV.agg g.row).cells=g.row:=rfl;rw [e2,flRows,flRows,List.map_set]
 rw [e,Hs_set]
end
theorem ins_L1{G:Gam}(hC:G Fn.q39=some (.gen (lookF F_fl1))){h:Heap}{l q m ver n:Nat}{es:List (AV×AV)}{tg:Option TypeId}(hl:l<h.length)(he:FlEnv h l q m es tg){e:Fl}(ke:okFl es e)(hn:n≤1000){ks:List MK}{Q:MPost}{i:Int}(R:List Fl)
  (hk:∀ env j,exM G .normal ks Q env [(0,.own l ver n),(1,.int .i64 0),(2,.int .i64 n),(3,.fn Fn.q39 [.ptr q 0]),(8,.int .i64 i),(9,.int .i64 j)] (Hs h l ver R)) :
  ∀ (rp moved:List Fl),(∀ f∈rp,okFl es f)→(rp.reverse++e::moved).length=n→R=(insRev (cfE es) e rp).reverse++moved→
  headM G [] Mc.q16_L1 h.length (.blk 2::ks) Q
   [(0,.own l ver n),(1,.int .i64 0),(2,.int .i64 n),(3,.fn Fn.q39 [.ptr q 0]),(8,.int .i64 i),(9,.int .i64 rp.length)] (Hs h l ver (rp.reverse++e::moved))
 | [],moved,hrp,hlen,hR=>by
  have q0:ltB 0 0=false:=rfl;have hR2:R=e::moved:=by rw [hR]; rfl
  subst hR2;refine head_go (Mc.q16_L1.eq_1) ?_
  rw [vtrunc_len Hs_len];simp only [List.reverse_nil,List.nil_append];generalize Hs h l ver (e::moved)=H0 at *;simp ;exact hk _ _
 | y::rp,moved,hrp,hlen,hR=>by
  have q0:ltB 0 ((rp.length:Int)+1)=true:=ltB_iff.2 (by omega);have wm:IntKind.i64.wrap ((rp.length:Int)+1-1)=(rp.length:Int):=by rw [i64_in _ ⟨by omega,by simp at hlen; omega⟩]; omega
  have wm2:IntKind.i64.wrap (rp.length:Int)=(rp.length:Int):=i64_in _ ⟨by omega,by simp at hlen; omega⟩;have erow:(y::rp).reverse++e::moved=rp.reverse++y::e::moved:=by simp
  have hlen2:(rp.reverse++y::e::moved).length=n:=by rw [← erow]; exact hlen
  have gy:(rp.reverse++y::e::moved)[rp.length]?=some y:=by rw [List.getElem?_append_right (by simp)]; simp
  have ge:(rp.reverse++y::e::moved)[rp.length+1]?=some e:=by rw [List.getElem?_append_right (by simp)]; simp
  have iy:=fl_ia (ver:=ver) hl gy;have ie:=fl_ia (ver:=ver) hl ge;have ly:=fl_ld (ver:=ver) hl gy;have le:=fl_ld (ver:=ver) hl ge;rw [hlen2]at iy ie;have cc:=fl_call (ver:=ver) (rows:=rp.reverse++y::e::moved) hC he ke (hrp y (by simp));have cast1:((rp.length+1:Nat):Int)=(rp.length:Int)+1:=by omega
  rw [cast1]at ie;refine head_go (Mc.q16_L1.eq_1) ?_
  rw [vtrunc_len Hs_len,erow];simp only [List.length_cons,cast1];by_cases hc:cfE es e y<0
  ·have q1:ltB (cfE es e y) 0=true:=ltB_iff.2 hc
   have s1:=fl_st (G:=G) (ver:=ver) hl ge y;have gy2:((rp.reverse++y::e::moved).set (rp.length+1) y)[rp.length]?=some y:=by rw [List.getElem?_set_ne (by omega)]; exact gy
   have s2:=fl_st (G:=G) (ver:=ver) hl gy2 e;have iy2:=fl_ia (ver:=ver) hl gy2;rw [List.length_set,hlen2]at iy2;have sw:((rp.reverse++y::e::moved).set (rp.length+1) y).set rp.length e=rp.reverse++e::y::moved:=by
    simp
   rw [sw]at s2;have ih:=ins_L1 hC hl he ke hn R hk rp (y::moved) (fun f hf=>hrp f (List.mem_cons_of_mem _ hf)) (by simp at hlen ⊢; omega) (by rw [hR,insRev,if_pos hc]; simp);have hl2:(Hs h l ver (rp.reverse++e::y::moved)).length=h.length:=Hs_len;have hl1:(Hs h l ver (rp.reverse++y::e::moved)).length=h.length:=Hs_len;generalize Hs h l ver (rp.reverse++y::e::moved)=H0 at *;generalize Hs h l ver ((rp.reverse++y::e::moved).set (rp.length+1) y)=H1 at *;generalize Hs h l ver (rp.reverse++e::y::moved)=H2 at *;generalize (rp.length:Int)=K at *;simp [q0,wm2,ie,iy,iy2,le,ly,cc,q1,s1,s2,-loadAV,-op_st];refine head_of ?_
   rw [vtrunc_len hl2];simpa using ih
  ·have q1:ltB (cfE es e y) 0=false:=ltB_not.2 (by omega)
   have hR2:R=rp.reverse++y::e::moved:=by rw [hR,insRev,if_neg hc]; simp
   clear hR;subst hR2;generalize Hs h l ver (rp.reverse++y::e::moved)=H0 at *;generalize (rp.length:Int)=K at *;simp [q0,wm2,ie,iy,le,ly,cc,q1,-loadAV];exact hk _ _
theorem insRev_mem(cf:Fl→Fl→Int)(e:Fl):∀ rp x,x∈insRev cf e rp↔x=e∨x∈rp
 | [],x=>by simp [insRev]
 | y::r,x=>by
  unfold insRev; split
  ·rw [List.mem_cons,insRev_mem cf e r x,List.mem_cons]
   constructor
   ·rintro (h | h | h)
    ·exact .inr (.inl h)
    ·exact .inl h
    ·exact .inr (.inr h)
   ·rintro (h | h | h)
    ·exact .inr (.inl h)
    ·exact .inl h
    ·exact .inr (.inr h)
  ·simp
theorem insRev_len(cf:Fl→Fl→Int)(e:Fl):∀ rp,(insRev cf e rp).length=rp.length+1
 | []=>rfl
 | y::r=>by unfold insRev; split <;> simp [insRev_len cf e r]
theorem ins_L0{G:Gam}(hC:G Fn.q39=some (.gen (lookF F_fl1))){h:Heap}{l q m ver n:Nat}{es:List (AV×AV)}{tg:Option TypeId}(hl:l<h.length)(he:FlEnv h l q m es tg)(hn:n≤1000)(R:List Fl) :
  ∀ (rest rp:List Fl),(∀ f∈rp,okFl es f)→(∀ f∈rest,okFl es f)→rp.length+rest.length=n→R=isort (cfE es) rp rest→
  headM G [9] Mc.q16_L0 h.length [.blk 0] (genQ Rs.q16 (.tup []) (Hs h l ver R))
   [(0,.own l ver n),(1,.int .i64 0),(2,.int .i64 n),(3,.fn Fn.q39 [.ptr q 0]),(8,.int .i64 rp.length),(9,.junk)] (Hs h l ver (rp.reverse++rest))
 | [],rp,hrp,hre,hlen,hR=>by
  have q0:ltB (rp.length:Int) (n:Int)=false:=ltB_not.2 (by simp at hlen; omega);have hR2:R=rp.reverse:=hR;subst hR2;refine head_go (Mc.q16_L0.eq_1) ?_
  rw [vtrunc_len Hs_len,List.append_nil];generalize Hs h l ver rp.reverse=H0 at *;simp [q0,genQ,Rs.q16]
 | e::rest,rp,hrp,hre,hlen,hR=>by
  have q0:ltB (rp.length:Int) (n:Int)=true:=ltB_iff.2 (by simp at hlen; omega);have w1:IntKind.i64.wrap ((rp.length:Int)+1)=(rp.length:Int)+1:=i64_in _ ⟨by omega,by simp at hlen; omega⟩;have ke:=hre e (by simp);have hrp2:∀ f∈insRev (cfE es) e rp,okFl es f:=fun f hf=>by
   rcases (insRev_mem _ _ _ _).1 hf with rfl | hf
   ·exact ke
   ·exact hrp f hf
  have next:=ins_L0 (ver:=ver) hC hl he hn R rest (insRev (cfE es) e rp) hrp2 (fun f hf=>hre f (List.mem_cons_of_mem _ hf)) (by rw [insRev_len]; simp at hlen; omega) hR
  rw [insRev_len]at next
  have L1:=fun ks Q hk=>ins_L1 (G:=G) hC (ver:=ver) (n:=n) hl he ke hn (ks:=ks) (Q:=Q) (i:=(rp.length:Int)) ((insRev (cfE es) e rp).reverse++rest) hk rp rest hrp (by simp at hlen ⊢; omega) rfl
  have hl2:(Hs h l ver ((insRev (cfE es) e rp).reverse++rest)).length=h.length:=Hs_len;have hl0:(Hs h l ver (rp.reverse++e::rest)).length=h.length:=Hs_len;refine head_go (Mc.q16_L0.eq_1) ?_
  rw [vtrunc_len hl0];generalize Hs h l ver (rp.reverse++e::rest)=H0 at *;generalize Hs h l ver ((insRev (cfE es) e rp).reverse++rest)=H2 at *;simp [q0,hl0];refine L1 _ _ (fun env j=>?_)
  simp [w1];refine head_of ?_
  rw [vtrunc_len hl2];simpa [junkAll,Rs.q16] using next
def flAt(h:Heap)(q l:Nat):Option (List (AV×AV)):=match h[q]? with
 | some (.cellsT _ [.map m])=>if q=l∨m=l then none else (match h[m]? with
  | some (.map es)=>some es
  | _=>none)
 | _=>none
theorem flAt_env{h:Heap}{q l:Nat}{es:List (AV×AV)}(hf:flAt h q l=some es):∃ m tg,FlEnv h l q m es tg:=by
 unfold flAt at hf
 split at hf
 ·rename_i tg m hq
  split at hf
  ·cases hf
  ·rename_i hne
   split at hf
   ·rename_i es' hm
    injection hf with hf; subst hf
    exact ⟨m,tg,hq,hm,fun e=>hne (.inl e),fun e=>hne (.inr e)⟩
   ·cases hf
 ·cases hf
def sortFl(es:List (AV×AV)):List Fl→List Fl
 | []=>[]
 | e::rest=>isort (cfE es) [e] rest
def okFlB(es:List (AV×AV))(f:Fl):Bool:=(plc es f.to_).isSome
theorem okFlB_of{es:List (AV×AV)}{f:Fl}(h:okFlB es f=true):okFl es f:=by
 unfold okFlB at h; unfold okFl plN
 cases hp:plc es f.to_ with
 | none=>rw [hp]at h; cases h
 | some n=>rfl
def flSort(l ver n q:Nat)(h:Heap):Option (AV×Heap):=match h[l]? with
 | some (.arrX false none 9 ver' rows true)=>match decAll decFl rows,flAt h q l with
  | some fs,some es=>if ver=ver'∧n=fs.length∧0<n∧n≤12∧fs.all (okFlB es)=true then some (.tup [],Hs h l ver (sortFl es fs))else none
  | _,_=>none
 | _=>none
def F_insFl:List AV→Heap→Option (AV×Heap)
 | [.own l ver n,.int .i64 0,.int .i64 b,.fn g [.ptr q 0]],h=>if g=Fn.q39∧b=n then flSort l ver n q h else none
 | _,_=>none
def F_pdqFl:List AV→Heap→Option (AV×Heap)
 | [.own l ver n,.int .i64 0,.int .i64 b,.int .i64 _,.fn g [.ptr q 0]],h=>if g=Fn.q39∧b=n then flSort l ver n q h else none
 | _,_=>none
def F_sortFl:List AV→Heap→Option (AV×Heap)
 | [.own l ver n,.fn g [.ptr q 0]],h=>if g=Fn.q39 then flSort l ver n q h else none
 | _,_=>none
theorem flSort_of{l ver n q:Nat}{h:Heap}{r:AV}{h':Heap}(hF:flSort l ver n q h=some (r,h')):∃ fs es m tg,h[l]?=some (.arr 9 ver (flRows fs) true)∧FlEnv h l q m es tg∧n=fs.length∧0<n∧n≤12∧(∀ f∈fs,okFl es f)∧r=.tup []∧h'=Hs h l ver (sortFl es fs):=by
 unfold flSort at hF
 split at hF
 ·rename_i ver' rows hl
  split at hF
  ·rename_i fs es hd hf
   split at hF
   ·rename_i hc
    obtain ⟨rfl,c2,c3,c4,c5⟩:=hc;simp only [Option.some.injEq,Prod.mk.injEq]at hF;obtain ⟨rfl,rfl⟩:=hF;obtain ⟨m,tg,he⟩:=flAt_env hf;exact ⟨fs,es,m,tg,by rw [hl,flRows_of hd],he,c2,c3,c4,fun f hf=>okFlB_of (List.all_eq_true.1 c5 f hf),rfl,rfl⟩
   ·cases hF
  ·cases hF
 ·cases hF
theorem insFl_ok{G:Gam}(hC:G Fn.q39=some (.gen (lookF F_fl1))):∀ args h r h',F_insFl args h=some (r,h')→
  wpM G Mc.q16 (genQ Rs.q16 r h') [] (frInit Ks.q16 args) h:=by
 intro args h r h' hF
 unfold F_insFl at hF
 split at hF
 ·rename_i l ver n b g q
  split at hF
  ·rename_i hg
   obtain ⟨rfl,rfl⟩:=hg;obtain ⟨fs,es,m,tg,hl,he,rfl,h0,h12,hok,rfl,rfl⟩:=flSort_of hF;have hlt:l<h.length:=(List.getElem?_eq_some_iff.1 hl).1;cases fs with
   | nil=>simp at h0
   | cons e rest=>
    have hh:h=Hs h l ver ([e].reverse++rest):=by
     obtain ⟨w,h2⟩:=List.getElem?_eq_some_iff.1 hl;have:[e].reverse++rest=e::rest:=rfl;unfold Hs;rw [this,← h2];exact (List.set_getElem_self w).symm
    have ih:=ins_L0 hC (ver:=ver) (n:=(e::rest).length) hlt he (by simp at h12 ⊢; omega) (sortFl es (e::rest)) rest [e] (fun f hf=>by simp at hf; subst hf; exact hok f (by simp)) (fun f hf=>hok f (by simp [hf])) (by simp; omega) rfl;have w1:IntKind.i64.wrap 1=1:=rfl;rw [← hh]at ih;rw [wpM_go];generalize (e::rest).length=N at *;generalize Hs h l ver (sortFl es (e::rest))=HR at *;simp [Mc.q16,Ks.q16,frInit,w1];simpa using ih
  ·cases hF
 ·cases hF
theorem pdqFl_ok{G:Gam}(hI:G Fn.q16=some (.gen F_insFl)):∀ args h r h',F_pdqFl args h=some (r,h')→
  wpM G Mc.q30 (genQ Rs.q30 r h') [] (frInit Ks.q30 args) h:=by
 intro args h r h' hF
 unfold F_pdqFl at hF
 split at hF
 ·rename_i l ver n b lim g q
  split at hF
  ·rename_i hg
   obtain ⟨rfl,rfl⟩:=hg;have hF2:=hF;obtain ⟨fs,es,m,tg,hl,he,rfl,h0,h12,hok,rfl,rfl⟩:=flSort_of hF;have cI:opV G false h (.call Fn.q16) (some [.own l ver fs.length,.int .i64 0,.int .i64 (fs.length:Int),.fn Fn.q39 [.ptr q 0]])=some (.tup [],Hs h l ver (sortFl es fs)):=by
    rw [op_call_gen hI]; simp only [F_insFl,and_self,if_true]; exact hF2
   have w1:IntKind.i64.wrap (fs.length:Int)=(fs.length:Int):=i64_in _ ⟨by omega,by omega⟩;have q1:ltB 12 (fs.length:Int)=false:=ltB_not.2 (by omega);rw [wpM_go];generalize Hs h l ver (sortFl es fs)=HR at *;simp [Mc.q30,Ks.q30,frInit];refine head_go (Mc.q30_L0.eq_1) ?_
   rw [vtrunc_len (n:=h.length) rfl];simp [w1,q1,cI,genQ,Rs.q30,junkAll]
  ·cases hF
 ·cases hF
def F_bitLen:List AV→Option AV
 | [.int .u64 x]=>if 0≤x∧x≤18446744073709551615 then some (.int .i64 (Lib.bitLen x.toNat))else none
 | _=>none
theorem bitLen_pure{P:Program}{gv:Gv}{f:Nat}
  (hc:∀ (x:Int) (w:World),0≤x→x≤18446744073709551615→Calls P f #[.int .u64 x] w fun e w'=>e=.returned (.int .i64 (Lib.bitLen x.toNat))∧w'=w):PureOK P gv f F_bitLen:=by
 refine pure_same fun I w args r vals hI hgl hr hF=>?_
 unfold F_bitLen at hF
 split at hF
 ·rename_i x
  split at hF
  ·rename_i hb
   injection hF with hF; subst hF
   obtain ⟨y,rfl,hy⟩:=one_arg hr;have:=int_inv hy; subst this;refine (hc x w hb.1 hb.2).mono fun e w' hk=>?_
   obtain ⟨rfl,rfl⟩:=hk;exact ⟨⟨_,rfl,.int _ _⟩,Below.refl _ _⟩
  ·cases hF
 ·cases hF
theorem sortFl_ok{G:Gam}(hP:G Fn.q30=some (.gen F_pdqFl))(hB:G Fn.q77=some (.pure F_bitLen)):∀ args h r h',F_sortFl args h=some (r,h')→
  wpM G Mc.q20 (genQ Rs.q20 r h') [] (frInit Ks.q20 args) h:=by
 intro args h r h' hF
 unfold F_sortFl at hF
 split at hF
 ·rename_i l ver n g q
  split at hF
  ·rename_i hg
   subst hg;have hF2:=hF;obtain ⟨fs,es,m,tg,hl,he,rfl,h0,h12,hok,rfl,rfl⟩:=flSort_of hF;have cP:∀ k:Int,opV G false h (.call Fn.q30) (some [.own l ver fs.length,.int .i64 0,.int .i64 (fs.length:Int),.int .i64 k,.fn Fn.q39 [.ptr q 0]])=some (.tup [],Hs h l ver (sortFl es fs)):=fun k=>by
    rw [op_call_gen hP]; simp only [F_pdqFl,and_self,if_true]; exact hF2
   have w1:IntKind.u64.wrap (fs.length:Int)=(fs.length:Int):=by
    simp only [IntKind.wrap,IntKind.signed,IntKind.bits,Bool.false_and,Bool.false_eq_true,if_false]; omega
   have cB:∀ st,opV G st h (.call Fn.q77) (some [.int .u64 (fs.length:Int)])=some (.int .i64 (Lib.bitLen fs.length),h):=fun st=>op_call hB (us:=[.int .u64 (fs.length:Int)]) rfl (by simp only [F_bitLen]; rw [if_pos (by omega)]; rfl) (.inl rfl)
   rw [wpM_go];generalize Hs h l ver (sortFl es fs)=HR at *;simp [Mc.q20,Ks.q20,frInit,lenAV,w1,cB,cP,genQ,Rs.q20]
  ·cases hF
 ·cases hF
end Go.Proofs.YtpefhfiehfkocaaGreatDoor
namespace Go.Proofs.YtpefhfiehfkocaaGreatDoor
open Go.RowKit Go.IntWalk
section
variable {cf:Fl→Fl→Int} {S:List Fl}
end
section
variable {h x:Heap} {m n l:Nat} {ts:List Fl} {seen:List Nat} {t:Fl} {b:Blk} {es:List (AV×AV)}
end
def vs0:List AV:=[.str [],.str [],.int .i64 0,.int .i64 0,.str [],.str [],.int .i64 0,.int .i64 0,.int .i64 0]
end Go.Proofs.YtpefhfiehfkocaaGreatDoor
