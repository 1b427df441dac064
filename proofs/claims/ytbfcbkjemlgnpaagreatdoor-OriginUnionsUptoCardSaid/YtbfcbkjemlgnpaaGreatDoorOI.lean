/- Comparing flows: cmp.Compare,cmp.Or,origin.compare,the closure of Flows. slices.SortFunc of flows,of at most twelve: insertion sort,walked. Tracer.Flows,whatever order the map's entries come in: -/
import Derived.Test.YtbfcbkjemlgnpaaGreatDoorOA
import Derived.Test.YtbfcbkjemlgnpaaGreatDoorOF
import Derived.Test.YtbfcbkjemlgnpaaGreatDoorRmA
import Derived.Test.YtbfcbkjemlgnpaaGreatDoorOB
import Derived.Test.YtbfcbkjemlgnpaaGreatDoorRmI
import Derived.Test.YtbfcbkjemlgnpaaGreatDoorOD
import Derived.Test.YtbfcbkjemlgnpaaGreatDoorRmK
import Derived.Test.YtbfcbkjemlgnpaaGreatDoorShelf
import Derived.Test.YtbfcbkjemlgnpaaGreatDoorAm10
namespace Go.Proofs.YtbfcbkjemlgnpaaGreatDoor
open Go.RowKit Go.IntWalk
def F_isNaN:List AV→Option AV
 | [.int .i64 _]=>some (.bool false)
 | _=>none
theorem isNaN_ok{G:Gam}:∀ args r,F_isNaN args=some r→wpM G Mc.q96 (pureQ Rs.q96 r) [] (frInit Ks.q96 args) []:=by
 intro args r hF
 unfold F_isNaN at hF
 split at hF
 ·rename_i n
  injection hF with hF; subst hF
  have q:eqB n n=true:=eqB_iff.2 rfl;rw [wpM_go];simp [Mc.q96,Ks.q96,frInit,pureQ,Rs.q96]
 ·cases hF
def F_cmpI:List AV→Option AV
 | [.int .i64 x,.int .i64 y]=>some (.int .i64 (Lib.compareInt x y))
 | _=>none
theorem cmpI_ok{G:Gam}(hN:G Fn.q96=some (.pure F_isNaN)):∀ args r,F_cmpI args=some r→wpM G Mc.q75 (pureQ Rs.q75 r) [] (frInit Ks.q75 args) []:=by
 intro args r hF
 unfold F_cmpI at hF
 split at hF
 ·rename_i x y
  injection hF with hF; subst hF
  have cn:∀ n st H,opV G st H (.call Fn.q96) (some [.int .i64 n])=some (.bool false,H):=fun n st H=>op_call hN (us:=[.int .i64 n]) rfl rfl (.inl rfl)
  rw [wpM_go];by_cases h1:x<y
  ·have q:ltB x y=true:=ltB_iff.2 h1
   have e:Lib.compareInt x y=-1:=by simp [Lib.compareInt,h1]
   rw [e];simp [Mc.q75,Ks.q75,frInit,cn,q,pureQ,Rs.q75]
  ·have q:ltB x y=false:=ltB_not.2 (by omega)
   by_cases h2:y<x
   ·have q2:ltB y x=true:=ltB_iff.2 h2
    have e:Lib.compareInt x y=1:=by simp [Lib.compareInt,h1,h2]
    rw [e];simp [Mc.q75,Ks.q75,frInit,cn,q,q2,pureQ,Rs.q75]
   ·have q2:ltB y x=false:=ltB_not.2 (by omega)
    have e:Lib.compareInt x y=0:=by simp [Lib.compareInt,h1,h2]
    rw [e];simp [Mc.q75,Ks.q75,frInit,cn,q,q2,pureQ,Rs.q75]
 ·cases hF
theorem use_cmpI{G:Gam}(h:G Fn.q75=some (.pure F_cmpI))(x y:Int)(st:Bool)(H:Heap):opV G st H (.call Fn.q75) (some [.int .i64 x,.int .i64 y])=some (.int .i64 (Lib.compareInt x y),H):=
 op_call h (us:=[.int .i64 x,.int .i64 y]) rfl rfl (.inl rfl)
def orI:List Int→Int
 | []=>0
 | a::r=>if a=0 then orI r else a
def F_orI:List AV→Option AV
 | [.sl rows]=>match decAll decI rows with
  | some l=>if l.length≤1000 then some (.int .i64 (orI l))else none
  | none=>none
 | _=>none
theorem orI_L0{G:Gam}(l:List Int)(hl:l.length≤1000):∀ (rest:List Int) (i:Nat),l.drop i=rest→i≤l.length→
  headM G [5] Mc.cmp_Or_int__L0 0 [.blk 0,.seq (.seq (.reg [zm 17 3,zM 2 17]) .ret)] (pureQ Rs.cmp_Or_int_ (.int .i64 (orI rest)))
   [(0,.sl (l.map eI)),(2,.int .i64 0),(3,.int .i64 0),(5,.junk),(6,.sl (l.map eI)),(7,.int .i64 l.length),(8,.int .i64 i)] []
 | [],i,hd,hi=>by
  have hi2:=drop_nil hd;have hq:ltB (i:Int) (l.length:Int)=false:=ltB_not.2 (by omega);refine head_go (Mc.cmp_Or_int__L0.eq_1) ?_
  simp [hq,orI,vtrunc_len (n:=0) (h:=[]) rfl,pureQ,Rs.cmp_Or_int_]
 | a::rest,i,hd,hi=>by
  obtain ⟨hlt,hx,hxd⟩:=drop_cons hd;have hq:ltB (i:Int) (l.length:Int)=true:=ltB_iff.2 (by omega);have hw:=wrap1 (i:=i) (by unfold big; omega);have r1:(l.map eI)[i]?=some (eI a):=by simp [hx]
  have ia:∀ H,iadrAV 1 H (.sl (l.map eI)) (.int .i64 (i:Int))=some (.fptr (eI a) 0):=fun H=>by
   have:(eI a).length=1:=rfl;generalize l.map eI=RR at r1 ⊢;simp [iadrAV,r1,this]
  have la:∀ H,loadAV 1 false H (.fptr (eI a) 0)=some (.int .i64 a):=fun H=>by simp [loadAV,cut,mkVal,eI]
  have ih:=orI_L0 (G:=G) l hl rest (i+1) hxd (by omega);refine head_go (Mc.cmp_Or_int__L0.eq_1) ?_
  rw [vtrunc_len (n:=0) (h:=[]) rfl];by_cases h0:a=0
  ·have q:eqB a 0=true:=eqB_iff.2 h0
   have e:orI (a::rest)=orI rest:=by simp [orI,h0]
   rw [e];generalize l.map eI=RA at *;simp [hq,ia,la,q,hw,-loadAV];refine head_of ?_
   rw [vtrunc_len (n:=0) rfl];simpa [junkAll,Rs.cmp_Or_int_] using ih
  ·have q:eqB a 0=false:=eqB_not.2 h0
   have e:orI (a::rest)=a:=by simp [orI,h0]
   rw [e];generalize l.map eI=RA at *;simp [hq,ia,la,q,pureQ,Rs.cmp_Or_int_,-loadAV]
theorem orI_ok{G:Gam}:∀ args r,F_orI args=some r→wpM G Mc.cmp_Or_int_ (pureQ Rs.cmp_Or_int_ r) [] (frInit Ks.cmp_Or_int_ args) []:=by
 intro args r hF
 unfold F_orI at hF
 split at hF
 ·split at hF
  ·rename_i l hd
   split at hF
   ·rename_i hok
    injection hF with hF; subst hF
    obtain rfl:=decAll_of (enc:=eI) (fun r x=>decI_of) hd;have ih:=orI_L0 (G:=G) l hok l 0 rfl (by omega);rw [wpM_go];simp [Mc.cmp_Or_int_,Ks.cmp_Or_int_,frInit,lenAV];simpa using ih
   ·cases hF
  ·cases hF
 ·cases hF
theorem use_orI{G:Gam}(h:G Fn.cmp_Or_int_=some (.pure F_orI)){l:List Int}(hl:l.length≤1000)(st:Bool)(H:Heap):opV G st H (.call Fn.cmp_Or_int_) (some [.tsl (l.map eI)])=some (.int .i64 (orI l),H):=
 op_call h (us:=[.sl (l.map eI)]) rfl (by
  have:decAll decI (l.map eI)=some l:=decAll_enc decI_row l;simp only [F_orI,this]; rw [if_pos hl]) (.inl rfl)
structure Seg where
 p:Bs
 m:Bs
 k:Int
 i:Int
deriving DecidableEq
structure Fl where
 to_:Seg
 fr:Seg
 rt:Int
deriving DecidableEq
def Seg.row(s:Seg):List AV:=[.str s.p,.str s.m,.int .i64 s.k,.int .i64 s.i]
def Fl.row(f:Fl):List AV:=[.str f.to_.p,.str f.to_.m,.int .i64 f.to_.k,.int .i64 f.to_.i,.str f.fr.p,.str f.fr.m,.int .i64 f.fr.k,.int .i64 f.fr.i,.int .i64 f.rt]
def decSeg:List AV→Option Seg
 | [.str p,.str m,.int .i64 k,.int .i64 i]=>some ⟨p,m,k,i⟩
 | _=>none
def decFl:List AV→Option Fl
 | [.str p,.str m,.int .i64 k,.int .i64 i,.str p',.str m',.int .i64 k',.int .i64 i',.int .i64 r]=>some ⟨⟨p,m,k,i⟩,⟨p',m',k',i'⟩,r⟩
 | _=>none
@[simp] theorem decSeg_row(s:Seg):decSeg s.row=some s:=rfl
@[simp] theorem decFl_row(s:Fl):decFl s.row=some s:=rfl
theorem decSeg_of{r:List AV}{s:Seg}(h:decSeg r=some s):r=s.row:=by
 unfold decSeg at h; split at h
 ·injection h with h; subst h; rfl
 ·cases h
theorem decFl_of{r:List AV}{s:Fl}(h:decFl r=some s):r=s.row:=by
 unfold decFl at h; split at h
 ·injection h with h; subst h; rfl
 ·cases h
def flRows(l:List Fl):List (List AV):=l.map Fl.row
@[simp] theorem flRows_len{l:List Fl}:(flRows l).length=l.length:=by simp [flRows]
theorem flRows_get{l:List Fl}{i:Nat}{s:Fl}(h:l[i]?=some s):(flRows l)[i]?=some s.row:=by simp [flRows,h]
@[simp] theorem dec_flRows(l:List Fl):decAll decFl (flRows l)=some l:=decAll_enc decFl_row l
theorem flRows_of{rs:List (List AV)}{l:List Fl}(h:decAll decFl rs=some l):rs=flRows l:=decAll_of (enc:=Fl.row) (fun _ _=>decFl_of) h
def cfSeg(a b:Seg):Int:=if a=b then 0 else orI [Lib.compareBytes a.p b.p,Lib.compareBytes a.m b.m,Lib.compareInt a.k b.k,Lib.compareInt a.i b.i]
def F_seg:List AV→Option AV
 | [.agg ra,.agg rb]=>match decSeg ra,decSeg rb with
  | some a,some b=>some (.int .i64 (cfSeg a b))
  | _,_=>none
 | _=>none
theorem seg_eq{G:Gam}(x y:Seg)(st:Bool)(H:Heap):opV G st H (.eqA false [.s,.s,.i,.i]) (some [.agg x.row,.agg y.row])=some (.bool (decide (x=y)),H):=by
 rw [opV_quiet rfl]
 obtain ⟨p,f,t,u⟩:=x
 obtain ⟨p',f',t',u'⟩:=y
 simp only [evalPure,Seg.row,List.length_cons,List.length_nil,and_self,if_true,eqCells,Seg.mk.injEq]
 by_cases h1:p=p'
 ·by_cases h2:f=f'
  ·by_cases h3:t=t'
   ·by_cases h4:u=u'
    ·simp [h1,h2,h3,h4]
    ·simp [h1,h2,h3,h4]
   ·simp [h1,h2,h3]
  ·simp [h1,h2]
 ·simp [h1]
theorem compare_ok{G:Gam}(hS:G Fn.q83=some (.pure F_Compare))(hI:G Fn.q75=some (.pure F_cmpI))(hO:G Fn.cmp_Or_int_=some (.pure F_orI)):∀ args r,F_seg args=some r→wpM G Mc.q93 (pureQ Rs.q93 r) [] (frInit Ks.q93 args) []:=by
 intro args r hF
 unfold F_seg at hF
 split at hF
 ·split at hF
  ·rename_i ra rb a b ha hb
   injection hF with hF; subst hF
   obtain rfl:=decSeg_of ha;obtain rfl:=decSeg_of hb;have ob:∀ st,opV G st [] .box (some [.agg a.row])=some (.ptr 0 0,[.cells a.row]):=fun st=>op_boxed (h:=[]) (v:=.agg a.row) (by simp [AV.cells,Seg.row])
   have ob2:∀ st,opV G st [.cells a.row] .box (some [.agg b.row])=some (.ptr 1 0,[.cells a.row,.cells b.row]):=fun st=>op_boxed (h:=[.cells a.row]) (v:=.agg b.row) (by simp [AV.cells,Seg.row])
   have la:loadAV 4 true [.cells a.row,.cells b.row] (.ptr 0 0)=some (.agg a.row):=ld_all (l:=0) (vs:=a.row) rfl rfl;have lb:loadAV 4 true [.cells a.row,.cells b.row] (.ptr 1 0)=some (.agg b.row):=ld_all (l:=1) (vs:=b.row) rfl rfl;have p0:loadAV 1 false [.cells a.row,.cells b.row] (.ptr 0 0)=some (.str a.p):=ld_cell (l:=0) rfl rfl;have p1:loadAV 1 false [.cells a.row,.cells b.row] (.ptr 0 1)=some (.str a.m):=ld_cell (l:=0) rfl rfl;have p2:loadAV 1 false [.cells a.row,.cells b.row] (.ptr 0 2)=some (.int .i64 a.k):=ld_cell (l:=0) rfl rfl;have p3:loadAV 1 false [.cells a.row,.cells b.row] (.ptr 0 3)=some (.int .i64 a.i):=ld_cell (l:=0) rfl rfl;have q0:loadAV 1 false [.cells a.row,.cells b.row] (.ptr 1 0)=some (.str b.p):=ld_cell (l:=1) rfl rfl;have q1:loadAV 1 false [.cells a.row,.cells b.row] (.ptr 1 1)=some (.str b.m):=ld_cell (l:=1) rfl rfl;have q2:loadAV 1 false [.cells a.row,.cells b.row] (.ptr 1 2)=some (.int .i64 b.k):=ld_cell (l:=1) rfl rfl;have q3:loadAV 1 false [.cells a.row,.cells b.row] (.ptr 1 3)=some (.int .i64 b.i):=ld_cell (l:=1) rfl rfl;have cs:∀ (s t:Bs) st H,opV G st H (.call Fn.q83) (some [.str s,.str t])=some (.int .i64 (Lib.compareBytes s t),H):=fun s t st H=>op_call hS (us:=[.str s,.str t]) rfl rfl (.inl rfl)
   have ci:=use_cmpI hI;have eq:=seg_eq (G:=G) a b;have bs:∀ (c d e f:Int) st h,opV G st h (.bsl false 1) (some [.int .i64 c,.int .i64 d,.int .i64 e,.int .i64 f])=some (.tsl ([c,d,e,f].map eI),h):=fun c d e f st h=>by rw [op_bsl rfl]; rfl
   have co:=fun (c d e f:Int) st H=>use_orI (G:=G) hO (l:=[c,d,e,f]) (by simp) st H
   rw [wpM_go];unfold cfSeg;by_cases h:a=b
   ·rw [decide_eq_true h]at eq
    rw [if_pos h];generalize a.row=RA at *;generalize b.row=RB at *;simp [Mc.q93,Ks.q93,frInit,ob,ob2,la,lb,eq,pureQ,Rs.q93,-loadAV]
   ·rw [decide_eq_false h]at eq
    rw [if_neg h];generalize a.row=RA at *;generalize b.row=RB at *;simp [Mc.q93,Ks.q93,frInit,ob,ob2,la,lb,eq,p0,p1,p2,p3,q0,q1,q2,q3,cs,ci,bs,-List.map_cons,-List.map_nil,co,pureQ,Rs.q93,-loadAV,-op_bsl]
  ·cases hF
 ·cases hF
def plc(es:List (AV×AV))(s:Seg):Option Int:=match agget [.s,.s,.i,.i] s.row es with
 | some none=>some 0
 | some (some (.int .i64 n))=>some n
 | _=>none
def cfFl(n1 n2:Int)(a b:Fl):Int:=orI [Lib.compareInt n1 n2,cfSeg a.fr b.fr,Lib.compareInt a.rt b.rt]
def F_fl1:List AV→Heap→Option AV
 | [.agg ra,.agg rb,.ptr q 0],h=>match decFl ra,decFl rb,h[q]? with
  | some a,some b,some (.cellsT _ [.map m])=>match h[m]? with
   | some (.map es)=>match plc es a.to_,plc es b.to_ with
    | some n1,some n2=>some (.int .i64 (cfFl n1 n2 a b))
    | _,_=>none
   | _=>none
  | _,_,_=>none
 | _,_=>none
theorem op_plc{G:Gam}{h:Heap}{m:Nat}{es:List (AV×AV)}{s:Seg}{n:Int}(hm:h[m]?=some (.map es))(hp:plc es s=some n)(st:Bool):opV G st h (.lookA [.s,.s,.i,.i] false (.int .i64 0)) (some [.map m,.agg s.row])=some (.int .i64 n,h):=by
 rw [opV_quiet rfl]
 have hl:s.row.length=[EK.s,.s,.i,.i].length:=rfl
 simp only [evalPure,hl,if_true,hm]
 unfold plc at hp
 split at hp
 ·rename_i e; injection hp with hp; subst hp; rw [e]; rfl
 ·rename_i e; injection hp with hp; subst hp; rw [e]; rfl
 ·cases hp
theorem fl1_ok{G:Gam}(hS:G Fn.q93=some (.pure F_seg))(hI:G Fn.q75=some (.pure F_cmpI))(hO:G Fn.cmp_Or_int_=some (.pure F_orI)):∀ args h r,F_fl1 args h=some r→wpM G Mc.q35 (lookQ Rs.q35 r h) [] (frInit Ks.q35 args) h:=by
 intro args h r hF
 unfold F_fl1 at hF
 split at hF
 ·rename_i ra rb q
  split at hF
  ·rename_i a b tg m ha hb hq
   split at hF
   ·rename_i es hm
    split at hF
    ·rename_i n1 n2 h1 h2
     injection hF with hF; subst hF
     obtain rfl:=decFl_of ha;obtain rfl:=decFl_of hb;have ob:∀ st,opV G st h .box (some [.agg a.row])=some (.ptr h.length 0,h++[.cells a.row]):=fun st=>op_boxed (h:=h) (v:=.agg a.row) (by simp [AV.cells,Fl.row])
     have ob2:∀ st,opV G st (h++[.cells a.row]) .box (some [.agg b.row])=some (.ptr (h.length+1) 0,h++[.cells a.row,.cells b.row]):=fun st=>by
      have:=op_boxed (G:=G) (s:=st) (h:=h++[.cells a.row]) (v:=.agg b.row) (by simp [AV.cells,Fl.row]);simpa using this
     have hlq:q<h.length:=(List.getElem?_eq_some_iff.1 hq).1;have hlm:m<h.length:=(List.getElem?_eq_some_iff.1 hm).1;have gq:(h++[Blk.cells a.row,.cells b.row])[q]?=some (.cellsT tg [.map m]):=by rw [List.getElem?_append_left hlq]; exact hq
     have gm:(h++[Blk.cells a.row,.cells b.row])[m]?=some (.map es):=by rw [List.getElem?_append_left hlm]; exact hm
     have ga:(h++[Blk.cells a.row,.cells b.row])[h.length]?=some (.cells a.row):=by simp
     have gb:(h++[Blk.cells a.row,.cells b.row])[h.length+1]?=some (.cells b.row):=by rw [List.getElem?_append_right (by simp)]; simp
     have lq:loadAV 1 false (h++[.cells a.row,.cells b.row]) (.ptr q 0)=some (.map m):=by simp [loadAV,gq,cut,mkVal]
     have at0:loadAV 4 true (h++[.cells a.row,.cells b.row]) (.ptr h.length 0)=some (.agg a.to_.row):=by simp only [loadAV,ga]; rfl
     have bt0:loadAV 4 true (h++[.cells a.row,.cells b.row]) (.ptr (h.length+1) 0)=some (.agg b.to_.row):=by simp only [loadAV,gb]; rfl
     have af:loadAV 4 true (h++[.cells a.row,.cells b.row]) (.ptr h.length 4)=some (.agg a.fr.row):=by simp only [loadAV,ga]; rfl
     have bf:loadAV 4 true (h++[.cells a.row,.cells b.row]) (.ptr (h.length+1) 4)=some (.agg b.fr.row):=by simp only [loadAV,gb]; rfl
     have ar:loadAV 1 false (h++[.cells a.row,.cells b.row]) (.ptr h.length 8)=some (.int .i64 a.rt):=ld_cell ga rfl;have br:loadAV 1 false (h++[.cells a.row,.cells b.row]) (.ptr (h.length+1) 8)=some (.int .i64 b.rt):=ld_cell gb rfl;have k1:=op_plc (G:=G) gm h1;have k2:=op_plc (G:=G) gm h2;have ci:=use_cmpI hI;have cc:∀ st H,opV G st H (.call Fn.q93) (some [.agg a.fr.row,.agg b.fr.row])=some (.int .i64 (cfSeg a.fr b.fr),H):=fun st H=>op_call hS (us:=[.agg a.fr.row,.agg b.fr.row]) (by simp [Seg.row,viewL,view]) (by simp [F_seg]) (.inl rfl)
     have bs:∀ (c d e:Int) st h,opV G st h (.bsl false 1) (some [.int .i64 c,.int .i64 d,.int .i64 e])=some (.tsl ([c,d,e].map eI),h):=fun c d e st h=>by rw [op_bsl rfl]; rfl
     have co:=fun (c d e:Int) st H=>use_orI (G:=G) hO (l:=[c,d,e]) (by simp) st H
     rw [wpM_go];unfold cfFl;generalize a.row=RA at *;generalize b.row=RB at *;simp [Mc.q35,Ks.q35,frInit,ob,ob2,lq,at0,bt0,af,bf,ar,br,k1,k2,ci,cc,bs,-List.map_cons,-List.map_nil,co,lookQ,Rs.q35,owns,freezeAll,-loadAV,-op_bsl]
    ·cases hF
   ·cases hF
  ·cases hF
 ·cases hF
end Go.Proofs.YtbfcbkjemlgnpaaGreatDoor
namespace Go.Proofs.YtbfcbkjemlgnpaaGreatDoor
open Go.RowKit Go.IntWalk
section
variable (cf:Fl→Fl→Int)
def insRev(e:Fl):List Fl→List Fl
 | []=>[e]
 | y::r=>if cf e y<0 then y::insRev e r else e::y::r
def isort:List Fl→List Fl→List Fl
 | rp,[]=>rp.reverse
 | rp,e::rest=>isort (insRev cf e rp) rest
end
structure FlEnv (h:Heap) (l q m:Nat) (es:List (AV×AV)) (tg:Option TypeId):Prop where
 hq:h[q]?=some (.cellsT tg [.map m])
 hm:h[m]?=some (.map es)
 nq:q≠l
 nm:m≠l
def Hs(h:Heap)(l ver:Nat)(rows:List Fl):Heap:=h.set l (.arr 9 ver (flRows rows) true)
def plN(es:List (AV×AV))(s:Seg):Int:=(plc es s).getD 0
def cfE(es:List (AV×AV))(a b:Fl):Int:=cfFl (plN es a.to_) (plN es b.to_) a b
def okFl(es:List (AV×AV))(f:Fl):Prop:=plc es f.to_=some (plN es f.to_)
section
variable {h:Heap} {l q m ver:Nat} {es:List (AV×AV)} {tg:Option TypeId} {rows:List Fl}
theorem Hs_len:(Hs h l ver rows).length=h.length:=by simp [Hs]
theorem Hs_get(hl:l<h.length):(Hs h l ver rows)[l]?=some (.arr 9 ver (flRows rows) true):=by simp [Hs,hl]
theorem Hs_set{rows':List Fl}:(Hs h l ver rows).set l (.arr 9 ver (flRows rows') true)=Hs h l ver rows':=by simp [Hs]
theorem fl_call{G:Gam}(hC:G Fn.q35=some (.gen (lookF F_fl1)))(he:FlEnv h l q m es tg){a b:Fl}(ha:okFl es a)(hb:okFl es b)(st:Bool):opV G st (Hs h l ver rows) .callv (some [.fn Fn.q35 [.ptr q 0],.agg a.row,.agg b.row])=some (.int .i64 (cfE es a b),Hs h l ver rows):=by
 have e1:opV G st (Hs h l ver rows) .callv (some [.fn Fn.q35 [.ptr q 0],.agg a.row,.agg b.row])=callAV G Fn.q35 [.agg a.row,.agg b.row,.ptr q 0] (Hs h l ver rows):=by cases st <;> rfl
 have g1:(Hs h l ver rows)[q]?=some (.cellsT tg [.map m]):=by unfold Hs; rw [List.getElem?_set_ne (fun e=>he.nq e.symm)]; exact he.hq
 have g2:(Hs h l ver rows)[m]?=some (.map es):=by unfold Hs; rw [List.getElem?_set_ne (fun e=>he.nm e.symm)]; exact he.hm
 rw [e1,call_gen hC]
 simp only [lookF,F_fl1,decFl_row,g1,g2]
 rw [ha,hb]
 rfl
theorem fl_ia(hl:l<h.length){i:Nat}{f:Fl}(hf:rows[i]?=some f):iadrAV 9 (Hs h l ver rows) (.own l ver rows.length) (.int .i64 (i:Int))=some (.eptr l ver i 0):=iadr_own (Hs_get hl) (by simp) (flRows_get hf) rfl
theorem fl_ld(hl:l<h.length){i:Nat}{f:Fl}(hf:rows[i]?=some f):loadAV 9 true (Hs h l ver rows) (.eptr l ver i 0)=some (.agg f.row):=by
 rw [ld_eptr (Hs_get hl) (flRows_get hf)]; simp [cut,mkVal,Fl.row]
theorem fl_st{G:Gam}(hl:l<h.length){i:Nat}{f:Fl}(hf:rows[i]?=some f)(g:Fl)(st:Bool):opV G st (Hs h l ver rows) (.st 9) (some [.eptr l ver i 0,.agg g.row])=some (.junk,Hs h l ver (rows.set i g)):=by
 rw [op_st_eptr (n:=9) (Hs_get hl) (flRows_get hf) rfl (by omega) rfl (by simp [Fl.row]) (by simp [view,viewL,Fl.row]) (by simp [owns,ownsL,Fl.row])]
 have e:(flRows rows).set i (setAt f.row 0 (AV.agg g.row).cells)=flRows (rows.set i g):=by
  have e2:setAt f.row 0 (AV.agg g.row).cells=g.row:=rfl;rw [e2,flRows,flRows,List.map_set]
 rw [e,Hs_set]
end
theorem swap_rows(pre tl:List Fl)(y e:Fl):((pre++y::e::tl).set (pre.length+1) y).set pre.length e=pre++e::y::tl:=by
 rw [List.set_append_right _ _ (by omega)]
 have:pre.length+1-pre.length=1:=by omega
 rw [this,List.set_append_right _ _ (Nat.le_refl _)]
 simp
theorem ins_L1{G:Gam}(hC:G Fn.q35=some (.gen (lookF F_fl1))){h:Heap}{l q m ver n:Nat}{es:List (AV×AV)}{tg:Option TypeId}(hl:l<h.length)(he:FlEnv h l q m es tg){e:Fl}(ke:okFl es e)(hn:n≤1000){ks:List MK}{Q:MPost}{i:Int}(R:List Fl)
  (hk:∀ env j,exM G .normal ks Q env [(0,.own l ver n),(1,.int .i64 0),(2,.int .i64 n),(3,.fn Fn.q35 [.ptr q 0]),(8,.int .i64 i),(9,.int .i64 j)] (Hs h l ver R)) :
  ∀ (rp moved:List Fl),(∀ f∈rp,okFl es f)→(rp.reverse++e::moved).length=n→R=(insRev (cfE es) e rp).reverse++moved→
  headM G [] Mc.q12_L1 h.length (.blk 2::ks) Q
   [(0,.own l ver n),(1,.int .i64 0),(2,.int .i64 n),(3,.fn Fn.q35 [.ptr q 0]),(8,.int .i64 i),(9,.int .i64 rp.length)] (Hs h l ver (rp.reverse++e::moved))
 | [],moved,hrp,hlen,hR=>by
  have q0:ltB 0 0=false:=rfl;have hR2:R=e::moved:=by rw [hR]; rfl
  subst hR2;refine head_go (Mc.q12_L1.eq_1) ?_
  rw [vtrunc_len Hs_len];simp only [List.reverse_nil,List.nil_append];generalize Hs h l ver (e::moved)=H0 at *;simp ;exact hk _ _
 | y::rp,moved,hrp,hlen,hR=>by
  have q0:ltB 0 ((rp.length:Int)+1)=true:=ltB_iff.2 (by omega);have wm:IntKind.i64.wrap ((rp.length:Int)+1-1)=(rp.length:Int):=by rw [i64_in _ ⟨by omega,by simp at hlen; omega⟩]; omega
  have wm2:IntKind.i64.wrap (rp.length:Int)=(rp.length:Int):=i64_in _ ⟨by omega,by simp at hlen; omega⟩;have erow:(y::rp).reverse++e::moved=rp.reverse++y::e::moved:=by simp
  have hlen2:(rp.reverse++y::e::moved).length=n:=by rw [← erow]; exact hlen
  have gy:(rp.reverse++y::e::moved)[rp.length]?=some y:=by rw [List.getElem?_append_right (by simp)]; simp
  have ge:(rp.reverse++y::e::moved)[rp.length+1]?=some e:=by rw [List.getElem?_append_right (by simp)]; simp
  have iy:=fl_ia (ver:=ver) hl gy;have ie:=fl_ia (ver:=ver) hl ge;have ly:=fl_ld (ver:=ver) hl gy;have le:=fl_ld (ver:=ver) hl ge;rw [hlen2]at iy ie;have cc:=fl_call (ver:=ver) (rows:=rp.reverse++y::e::moved) hC he ke (hrp y (by simp));have cast1:((rp.length+1:Nat):Int)=(rp.length:Int)+1:=by omega
  rw [cast1]at ie;refine head_go (Mc.q12_L1.eq_1) ?_
  rw [vtrunc_len Hs_len,erow];simp only [List.length_cons,cast1];by_cases hc:cfE es e y<0
  ·have q1:ltB (cfE es e y) 0=true:=ltB_iff.2 hc
   have s1:=fl_st (G:=G) (ver:=ver) hl ge y;have gy2:((rp.reverse++y::e::moved).set (rp.length+1) y)[rp.length]?=some y:=by rw [List.getElem?_set_ne (by omega)]; exact gy
   have s2:=fl_st (G:=G) (ver:=ver) hl gy2 e;have iy2:=fl_ia (ver:=ver) hl gy2;rw [List.length_set,hlen2]at iy2;have sw:((rp.reverse++y::e::moved).set (rp.length+1) y).set rp.length e=rp.reverse++e::y::moved:=by
    simp
   rw [sw]at s2;have ih:=ins_L1 hC hl he ke hn R hk rp (y::moved) (fun f hf=>hrp f (List.mem_cons_of_mem _ hf)) (by simp at hlen ⊢; omega) (by rw [hR,insRev,if_pos hc]; simp);have hl2:(Hs h l ver (rp.reverse++e::y::moved)).length=h.length:=Hs_len;have hl1:(Hs h l ver (rp.reverse++y::e::moved)).length=h.length:=Hs_len;generalize Hs h l ver (rp.reverse++y::e::moved)=H0 at *;generalize Hs h l ver ((rp.reverse++y::e::moved).set (rp.length+1) y)=H1 at *;generalize Hs h l ver (rp.reverse++e::y::moved)=H2 at *;generalize (rp.length:Int)=K at *;simp [q0,wm2,ie,iy,iy2,le,ly,cc,q1,s1,s2,-loadAV,-op_st];refine head_of ?_
   rw [vtrunc_len hl2];simpa using ih
  ·have q1:ltB (cfE es e y) 0=false:=ltB_not.2 (by omega)
   have hR2:R=rp.reverse++y::e::moved:=by rw [hR,insRev,if_neg hc]; simp
   clear hR;subst hR2;generalize Hs h l ver (rp.reverse++y::e::moved)=H0 at *;generalize (rp.length:Int)=K at *;simp [q0,wm2,ie,iy,le,ly,cc,q1,-loadAV];exact hk _ _
theorem insRev_mem(cf:Fl→Fl→Int)(e:Fl):∀ rp x,x∈insRev cf e rp↔x=e∨x∈rp
 | [],x=>by simp [insRev]
 | y::r,x=>by
  unfold insRev; split
  ·rw [List.mem_cons,insRev_mem cf e r x,List.mem_cons]
   constructor
   ·rintro (h | h | h)
    ·exact .inr (.inl h)
    ·exact .inl h
    ·exact .inr (.inr h)
   ·rintro (h | h | h)
    ·exact .inr (.inl h)
    ·exact .inl h
    ·exact .inr (.inr h)
  ·simp
theorem insRev_len(cf:Fl→Fl→Int)(e:Fl):∀ rp,(insRev cf e rp).length=rp.length+1
 | []=>rfl
 | y::r=>by unfold insRev; split <;> simp [insRev_len cf e r]
theorem ins_L0{G:Gam}(hC:G Fn.q35=some (.gen (lookF F_fl1))){h:Heap}{l q m ver n:Nat}{es:List (AV×AV)}{tg:Option TypeId}(hl:l<h.length)(he:FlEnv h l q m es tg)(hn:n≤1000)(R:List Fl) :
  ∀ (rest rp:List Fl),(∀ f∈rp,okFl es f)→(∀ f∈rest,okFl es f)→rp.length+rest.length=n→R=isort (cfE es) rp rest→
  headM G [9] Mc.q12_L0 h.length [.blk 0] (genQ Rs.q12 (.tup []) (Hs h l ver R))
   [(0,.own l ver n),(1,.int .i64 0),(2,.int .i64 n),(3,.fn Fn.q35 [.ptr q 0]),(8,.int .i64 rp.length),(9,.junk)] (Hs h l ver (rp.reverse++rest))
 | [],rp,hrp,hre,hlen,hR=>by
  have q0:ltB (rp.length:Int) (n:Int)=false:=ltB_not.2 (by simp at hlen; omega);have hR2:R=rp.reverse:=hR;subst hR2;refine head_go (Mc.q12_L0.eq_1) ?_
  rw [vtrunc_len Hs_len,List.append_nil];generalize Hs h l ver rp.reverse=H0 at *;simp [q0,genQ,Rs.q12]
 | e::rest,rp,hrp,hre,hlen,hR=>by
  have q0:ltB (rp.length:Int) (n:Int)=true:=ltB_iff.2 (by simp at hlen; omega);have w1:IntKind.i64.wrap ((rp.length:Int)+1)=(rp.length:Int)+1:=i64_in _ ⟨by omega,by simp at hlen; omega⟩;have ke:=hre e (by simp);have hrp2:∀ f∈insRev (cfE es) e rp,okFl es f:=fun f hf=>by
   rcases (insRev_mem _ _ _ _).1 hf with rfl | hf
   ·exact ke
   ·exact hrp f hf
  have next:=ins_L0 (ver:=ver) hC hl he hn R rest (insRev (cfE es) e rp) hrp2 (fun f hf=>hre f (List.mem_cons_of_mem _ hf)) (by rw [insRev_len]; simp at hlen; omega) hR
  rw [insRev_len]at next
  have L1:=fun ks Q hk=>ins_L1 (G:=G) hC (ver:=ver) (n:=n) hl he ke hn (ks:=ks) (Q:=Q) (i:=(rp.length:Int)) ((insRev (cfE es) e rp).reverse++rest) hk rp rest hrp (by simp at hlen ⊢; omega) rfl
  have hl2:(Hs h l ver ((insRev (cfE es) e rp).reverse++rest)).length=h.length:=Hs_len;have hl0:(Hs h l ver (rp.reverse++e::rest)).length=h.length:=Hs_len;refine head_go (Mc.q12_L0.eq_1) ?_
  rw [vtrunc_len hl0];generalize Hs h l ver (rp.reverse++e::rest)=H0 at *;generalize Hs h l ver ((insRev (cfE es) e rp).reverse++rest)=H2 at *;simp [q0,hl0];refine L1 _ _ (fun env j=>?_)
  simp [w1];refine head_of ?_
  rw [vtrunc_len hl2];simpa [junkAll,Rs.q12] using next
def flAt(h:Heap)(q l:Nat):Option (List (AV×AV)):=match h[q]? with
 | some (.cellsT _ [.map m])=>if q=l∨m=l then none else (match h[m]? with
  | some (.map es)=>some es
  | _=>none)
 | _=>none
theorem flAt_env{h:Heap}{q l:Nat}{es:List (AV×AV)}(hf:flAt h q l=some es):∃ m tg,FlEnv h l q m es tg:=by
 unfold flAt at hf
 split at hf
 ·rename_i tg m hq
  split at hf
  ·cases hf
  ·rename_i hne
   split at hf
   ·rename_i es' hm
    injection hf with hf; subst hf
    exact ⟨m,tg,hq,hm,fun e=>hne (.inl e),fun e=>hne (.inr e)⟩
   ·cases hf
 ·cases hf
def sortFl(es:List (AV×AV)):List Fl→List Fl
 | []=>[]
 | e::rest=>isort (cfE es) [e] rest
def okFlB(es:List (AV×AV))(f:Fl):Bool:=(plc es f.to_).isSome
theorem okFlB_of{es:List (AV×AV)}{f:Fl}(h:okFlB es f=true):okFl es f:=by
 unfold okFlB at h; unfold okFl plN
 cases hp:plc es f.to_ with
 | none=>rw [hp]at h; cases h
 | some n=>rfl
def flSort(l ver n q:Nat)(h:Heap):Option (AV×Heap):=match h[l]? with
 | some (.arrX false none 9 ver' rows true)=>match decAll decFl rows,flAt h q l with
  | some fs,some es=>if ver=ver'∧n=fs.length∧0<n∧n≤12∧fs.all (okFlB es)=true then some (.tup [],Hs h l ver (sortFl es fs))else none
  | _,_=>none
 | _=>none
def F_insFl:List AV→Heap→Option (AV×Heap)
 | [.own l ver n,.int .i64 0,.int .i64 b,.fn g [.ptr q 0]],h=>if g=Fn.q35∧b=n then flSort l ver n q h else none
 | _,_=>none
def F_pdqFl:List AV→Heap→Option (AV×Heap)
 | [.own l ver n,.int .i64 0,.int .i64 b,.int .i64 _,.fn g [.ptr q 0]],h=>if g=Fn.q35∧b=n then flSort l ver n q h else none
 | _,_=>none
def F_sortFl:List AV→Heap→Option (AV×Heap)
 | [.own l ver n,.fn g [.ptr q 0]],h=>if g=Fn.q35 then flSort l ver n q h else none
 | _,_=>none
theorem flSort_of{l ver n q:Nat}{h:Heap}{r:AV}{h':Heap}(hF:flSort l ver n q h=some (r,h')):∃ fs es m tg,h[l]?=some (.arr 9 ver (flRows fs) true)∧FlEnv h l q m es tg∧n=fs.length∧0<n∧n≤12∧(∀ f∈fs,okFl es f)∧r=.tup []∧h'=Hs h l ver (sortFl es fs):=by
 unfold flSort at hF
 split at hF
 ·rename_i ver' rows hl
  split at hF
  ·rename_i fs es hd hf
   split at hF
   ·rename_i hc
    obtain ⟨rfl,c2,c3,c4,c5⟩:=hc;simp only [Option.some.injEq,Prod.mk.injEq]at hF;obtain ⟨rfl,rfl⟩:=hF;obtain ⟨m,tg,he⟩:=flAt_env hf;exact ⟨fs,es,m,tg,by rw [hl,flRows_of hd],he,c2,c3,c4,fun f hf=>okFlB_of (List.all_eq_true.1 c5 f hf),rfl,rfl⟩
   ·cases hF
  ·cases hF
 ·cases hF
theorem insFl_ok{G:Gam}(hC:G Fn.q35=some (.gen (lookF F_fl1))):∀ args h r h',F_insFl args h=some (r,h')→
  wpM G Mc.q12 (genQ Rs.q12 r h') [] (frInit Ks.q12 args) h:=by
 intro args h r h' hF
 unfold F_insFl at hF
 split at hF
 ·rename_i l ver n b g q
  split at hF
  ·rename_i hg
   obtain ⟨rfl,rfl⟩:=hg;obtain ⟨fs,es,m,tg,hl,he,rfl,h0,h12,hok,rfl,rfl⟩:=flSort_of hF;have hlt:l<h.length:=(List.getElem?_eq_some_iff.1 hl).1;cases fs with
   | nil=>simp at h0
   | cons e rest=>
    have hh:h=Hs h l ver ([e].reverse++rest):=by
     obtain ⟨w,h2⟩:=List.getElem?_eq_some_iff.1 hl;have:[e].reverse++rest=e::rest:=rfl;unfold Hs;rw [this,← h2];exact (List.set_getElem_self w).symm
    have ih:=ins_L0 hC (ver:=ver) (n:=(e::rest).length) hlt he (by simp at h12 ⊢; omega) (sortFl es (e::rest)) rest [e] (fun f hf=>by simp at hf; subst hf; exact hok f (by simp)) (fun f hf=>hok f (by simp [hf])) (by simp; omega) rfl;have w1:IntKind.i64.wrap 1=1:=rfl;rw [← hh]at ih;rw [wpM_go];generalize (e::rest).length=N at *;generalize Hs h l ver (sortFl es (e::rest))=HR at *;simp [Mc.q12,Ks.q12,frInit,w1];simpa using ih
  ·cases hF
 ·cases hF
theorem pdqFl_ok{G:Gam}(hI:G Fn.q12=some (.gen F_insFl)):∀ args h r h',F_pdqFl args h=some (r,h')→
  wpM G Mc.q27 (genQ Rs.q27 r h') [] (frInit Ks.q27 args) h:=by
 intro args h r h' hF
 unfold F_pdqFl at hF
 split at hF
 ·rename_i l ver n b lim g q
  split at hF
  ·rename_i hg
   obtain ⟨rfl,rfl⟩:=hg;have hF2:=hF;obtain ⟨fs,es,m,tg,hl,he,rfl,h0,h12,hok,rfl,rfl⟩:=flSort_of hF;have cI:opV G false h (.call Fn.q12) (some [.own l ver fs.length,.int .i64 0,.int .i64 (fs.length:Int),.fn Fn.q35 [.ptr q 0]])=some (.tup [],Hs h l ver (sortFl es fs)):=by
    rw [op_call_gen hI]; simp only [F_insFl,and_self,if_true]; exact hF2
   have w1:IntKind.i64.wrap (fs.length:Int)=(fs.length:Int):=i64_in _ ⟨by omega,by omega⟩;have q1:ltB 12 (fs.length:Int)=false:=ltB_not.2 (by omega);rw [wpM_go];generalize Hs h l ver (sortFl es fs)=HR at *;simp [Mc.q27,Ks.q27,frInit];refine head_go (Mc.q27_L0.eq_1) ?_
   rw [vtrunc_len (n:=h.length) rfl];simp [w1,q1,cI,genQ,Rs.q27,junkAll]
  ·cases hF
 ·cases hF
def F_bitLen:List AV→Option AV
 | [.int .u64 x]=>if 0≤x∧x≤18446744073709551615 then some (.int .i64 (Lib.bitLen x.toNat))else none
 | _=>none
theorem bitLen_pure{P:Program}{gv:Gv}{f:Nat}
  (hc:∀ (x:Int) (w:World),0≤x→x≤18446744073709551615→Calls P f #[.int .u64 x] w fun e w'=>e=.returned (.int .i64 (Lib.bitLen x.toNat))∧w'=w):PureOK P gv f F_bitLen:=by
 refine pure_same fun I w args r vals hI hgl hr hF=>?_
 unfold F_bitLen at hF
 split at hF
 ·rename_i x
  split at hF
  ·rename_i hb
   injection hF with hF; subst hF
   obtain ⟨y,rfl,hy⟩:=one_arg hr;have:=int_inv hy; subst this;refine (hc x w hb.1 hb.2).mono fun e w' hk=>?_
   obtain ⟨rfl,rfl⟩:=hk;exact ⟨⟨_,rfl,.int _ _⟩,Below.refl _ _⟩
  ·cases hF
 ·cases hF
theorem sortFl_ok{G:Gam}(hP:G Fn.q27=some (.gen F_pdqFl))(hB:G Fn.q104=some (.pure F_bitLen)):∀ args h r h',F_sortFl args h=some (r,h')→
  wpM G Mc.q14 (genQ Rs.q14 r h') [] (frInit Ks.q14 args) h:=by
 intro args h r h' hF
 unfold F_sortFl at hF
 split at hF
 ·rename_i l ver n g q
  split at hF
  ·rename_i hg
   subst hg;have hF2:=hF;obtain ⟨fs,es,m,tg,hl,he,rfl,h0,h12,hok,rfl,rfl⟩:=flSort_of hF;have cP:∀ k:Int,opV G false h (.call Fn.q27) (some [.own l ver fs.length,.int .i64 0,.int .i64 (fs.length:Int),.int .i64 k,.fn Fn.q35 [.ptr q 0]])=some (.tup [],Hs h l ver (sortFl es fs)):=fun k=>by
    rw [op_call_gen hP]; simp only [F_pdqFl,and_self,if_true]; exact hF2
   have w1:IntKind.u64.wrap (fs.length:Int)=(fs.length:Int):=by
    simp only [IntKind.wrap,IntKind.signed,IntKind.bits,Bool.false_and,Bool.false_eq_true,if_false]; omega
   have cB:∀ st,opV G st h (.call Fn.q104) (some [.int .u64 (fs.length:Int)])=some (.int .i64 (Lib.bitLen fs.length),h):=fun st=>op_call hB (us:=[.int .u64 (fs.length:Int)]) rfl (by simp only [F_bitLen]; rw [if_pos (by omega)]; rfl) (.inl rfl)
   rw [wpM_go];generalize Hs h l ver (sortFl es fs)=HR at *;simp [Mc.q14,Ks.q14,frInit,lenAV,w1,cB,cP,genQ,Rs.q14]
  ·cases hF
 ·cases hF
end Go.Proofs.YtbfcbkjemlgnpaaGreatDoor
namespace Go.Proofs.YtbfcbkjemlgnpaaGreatDoor
open Go.RowKit Go.IntWalk
def ordF(cf:Fl→Fl→Int)(S:List Fl):Bool:=S.zipIdx.all fun a=>S.zipIdx.all fun b=>decide (cf a.1 b.1<0) == decide (a.2<b.2)
section
variable {cf:Fl→Fl→Int} {S:List Fl}
theorem ordF_get(h:ordF cf S=true){i j:Nat}{a b:Fl}(ha:S[i]?=some a)(hb:S[j]?=some b):cf a b<0↔i<j:=by
 have h1:=List.all_eq_true.1 h (a,i) (List.mem_zipIdx_iff_getElem?.2 ha)
 have h2:=List.all_eq_true.1 h1 (b,j) (List.mem_zipIdx_iff_getElem?.2 hb)
 simp only [beq_iff_eq,decide_eq_decide]at h2
 exact h2
theorem ordF_irr(h:ordF cf S=true){a:Fl}(ha:a∈S):¬ cf a a<0:=by
 obtain ⟨i,hi⟩:=List.mem_iff_getElem?.1 ha
 rw [ordF_get h hi hi]; omega
theorem ordF_tr(h:ordF cf S=true){a b c:Fl}(ha:a∈S)(hb:b∈S)(hc:c∈S)(h1:cf a b<0)(h2:cf b c<0):cf a c<0:=by
 obtain ⟨i,hi⟩:=List.mem_iff_getElem?.1 ha
 obtain ⟨j,hj⟩:=List.mem_iff_getElem?.1 hb
 obtain ⟨k,hk⟩:=List.mem_iff_getElem?.1 hc
 rw [ordF_get h hi hj]at h1
 rw [ordF_get h hj hk]at h2
 rw [ordF_get h hi hk]; omega
theorem ordF_tot(h:ordF cf S=true){a b:Fl}(ha:a∈S)(hb:b∈S)(hne:a≠b):cf a b<0∨cf b a<0:=by
 obtain ⟨i,hi⟩:=List.mem_iff_getElem?.1 ha
 obtain ⟨j,hj⟩:=List.mem_iff_getElem?.1 hb
 rw [ordF_get h hi hj,ordF_get h hj hi]
 have:i≠j:=fun e=>hne (by rw [e,hj]at hi; injection hi with hi; exact hi.symm)
 omega
theorem ordF_pw(h:ordF cf S=true):S.Pairwise fun a b=>cf a b<0:=by
 rw [List.pairwise_iff_getElem]
 intro i j hi hj hij
 exact (ordF_get h (List.getElem?_eq_getElem hi) (List.getElem?_eq_getElem hj)).2 hij
theorem ordF_nodup(h:ordF cf S=true):S.Nodup:=
 List.Pairwise.imp_of_mem (fun {a b} ha _ hab=>fun e=>by subst e; exact ordF_irr h ha hab) (ordF_pw h)
theorem insRev_perm(e:Fl):∀ rp,(insRev cf e rp).Perm (e::rp)
 | []=>.refl _
 | y::r=>by
  unfold insRev; split
  ·exact ((insRev_perm e r).cons y).trans (.swap _ _ _)
  ·exact .refl _
theorem isort_perm:∀ rest rp,(isort cf rp rest).Perm (rp++rest)
 | [],rp=>by unfold isort; rw [List.append_nil]; exact List.reverse_perm rp
 | e::rest,rp=>by
  unfold isort;refine (isort_perm rest _).trans ?_
  refine ((insRev_perm e rp).append_right rest).trans ?_
  exact (List.perm_middle (a:=e) (l₁:=rp) (l₂:=rest)).symm
theorem insRev_pw(h:ordF cf S=true){e:Fl}(he:e∈S):∀ rp,(∀ x∈rp,x∈S)→e ∉ rp→rp.Pairwise (fun x y=>cf y x<0)→(insRev cf e rp).Pairwise (fun x y=>cf y x<0)
 | [],_,_,_=>by simp [insRev]
 | y::r,hm,hn,hp=>by
  obtain ⟨p1,p2⟩:=List.pairwise_cons.1 hp;have hy:=hm y (by simp);unfold insRev; split
  ·rename_i hc
   refine List.pairwise_cons.2 ⟨fun z hz=>?_,insRev_pw h he r (fun x hx=>hm x (by simp [hx])) (fun hx=>hn (by simp [hx])) p2⟩
   rcases (insRev_mem _ _ _ _).1 hz with rfl | hz
   ·exact hc
   ·exact p1 z hz
  ·rename_i hc
   have hye:cf y e<0:=by
    rcases ordF_tot h hy he (fun e'=>hn (by simp [e']))with h1 | h1
    ·exact h1
    ·exact absurd h1 hc
   refine List.pairwise_cons.2 ⟨fun z hz=>?_,hp⟩
   rcases List.mem_cons.1 hz with rfl | hz
   ·exact hye
   ·exact ordF_tr h (hm z (by simp [hz])) hy he (p1 z hz) hye
theorem isort_pw(h:ordF cf S=true):∀ rest rp,(∀ x∈rp,x∈S)→(∀ x∈rest,x∈S)→(rp++rest).Nodup→rp.Pairwise (fun x y=>cf y x<0)→(isort cf rp rest).Pairwise (fun x y=>cf x y<0)
 | [],rp,_,_,_,hp=>by unfold isort; exact List.pairwise_reverse.2 hp
 | e::rest,rp,hm,hr,hn,hp=>by
  unfold isort;have he:=hr e (by simp);have hne:e ∉ rp:=fun hx=>by
   have:=(List.nodup_append.1 hn).2.2 e hx e (by simp);exact this rfl
  refine isort_pw h rest _ (fun x hx=>?_) (fun x hx=>hr x (by simp [hx])) ?_ (insRev_pw h he rp hm hne hp)
  ·rcases (insRev_mem _ _ _ _).1 hx with rfl | hx
   ·exact he
   ·exact hm x hx
  ·refine (List.Perm.nodup_iff ?_).1 hn
   exact (List.perm_middle (a:=e) (l₁:=rp) (l₂:=rest)).trans ((insRev_perm e rp).append_right rest).symm
end
theorem sortFl_perm{es:List (AV×AV)}:∀ l,(sortFl es l).Perm l
 | []=>.refl _
 | e::r=>isort_perm r [e]
theorem sort_one{es:List (AV×AV)}{ts fs:List Fl}(h:ordF (cfE es) (sortFl es fs)=true)(hp:ts.Perm fs):sortFl es ts=sortFl es fs:=by
 have hps:ts.Perm (sortFl es fs):=hp.trans (sortFl_perm fs).symm
 have hnd:ts.Nodup:=hps.nodup_iff.2 (ordF_nodup h)
 have h1:(sortFl es ts).Pairwise (fun x y=>cfE es x y<0):=by
  cases ts with
  | nil=>exact .nil
  | cons e r=>
   exact isort_pw h r [e] (fun x hx=>by simp at hx; subst hx; exact hps.mem_iff.1 (by simp)) (fun x hx=>hps.mem_iff.1 (by simp [hx])) hnd (by simp)
 have hm:∀ x∈sortFl es ts,x∈sortFl es fs:=fun x hx=>hps.mem_iff.1 ((sortFl_perm ts).mem_iff.1 hx)
 exact List.Perm.eq_of_pairwise (le:=fun x y=>cfE es x y<0) (fun a b ha hb h2 h3=>absurd (ordF_tr h (hm a ha) hb (hm a ha) h2 h3) (ordF_irr h (hm a ha))) h1 (ordF_pw h) ((sortFl_perm ts).trans hps)
theorem wp_assoc{G:Gam}{a b c:MC}{Q:MPost}{env fr:List (Nat×AV)}{h:Heap}:wpM G (.seq (.seq a b) c) Q env fr h=wpM G (.seq a (.seq b c)) Q env fr h:=by
 simp only [wpM]
 congr 1
 funext x env fr h
 cases x <;> rfl
def cutM:Nat→MC→MC→MC×MC
 | 0,acc,c=>(acc,c)
 | n+1,acc,.seq a b=>cutM n (.seq acc a) b
 | _+1,acc,c=>(acc,c)
theorem cutM_wp{G:Gam}{Q:MPost}{env fr:List (Nat×AV)}{h:Heap}:∀ (n:Nat) (acc c:MC),wpM G (.seq (cutM n acc c).1 (cutM n acc c).2) Q env fr h→wpM G (.seq acc c) Q env fr h
 | 0,acc,c=>fun k=>k
 | n+1,acc,c=>by
  cases c with
  | seq a b=>intro k; rw [← wp_assoc]; exact cutM_wp n (.seq acc a) b k
  | _=>exact fun k=>k
theorem wp_assoc2{G:Gam}{x a b c:MC}{Q:MPost}{env fr:List (Nat×AV)}{h:Heap}:wpM G (.seq x (.seq (.seq a b) c)) Q env fr h=wpM G (.seq (.seq x a) (.seq b c)) Q env fr h:=by
 rw [wp_assoc]
 show wpM G x (seqQ (fun _ env fr h=>wpM G (.seq (.seq a b) c) Q env fr h) Q) env fr h=wpM G x (seqQ (fun _ env fr h=>wpM G (.seq a (.seq b c)) Q env fr h) Q) env fr h
 simp only [wp_assoc]
def seqA:MC→MC
 | .seq a _=>a
 | c=>c
def flCut:MC×MC:=cutM 8 .skip Mc.q41
def flPre:MC:=.seq flCut.1 (seqA (seqA flCut.2))
def flTail:MC:=.seq (.reg [zm 97 10,iz 98 (.mkfn Fn.q35) [.t 7],zg 99 Fn.q14 [.t 97,.t 98]]) (.seq (.reg [zm 100 10,zM 4 100]) .ret)
theorem flCut_2:flCut.2=.seq (.seq (seqA (seqA flCut.2)) (.blk 3 (.loop [11] Mc.q41_L1))) flTail:=rfl
theorem fl_wp{G:Gam}{Q:MPost}{env fr:List (Nat×AV)}{h:Heap}(k:wpM G (.seq flPre (.seq (.blk 3 (.loop [11] Mc.q41_L1)) flTail)) Q env fr h):wpM G Mc.q41 Q env fr h:=by
 have h1:wpM G (.seq .skip Mc.q41) Q env fr h:=by
  refine cutM_wp 8 .skip Mc.q41 ?_
  show wpM G (.seq flCut.1 flCut.2) Q env fr h
  rw [flCut_2,wp_assoc2];exact k
 exact h1
def decFK:List (AV×AV)→Option (List Fl)
 | []=>some []
 | (.agg r,_)::t=>match decFl r,decFK t with
  | some f,some l=>some (f::l)
  | _,_=>none
 | _=>none
theorem decFK_get:∀ {es:List (AV×AV)} {fs:List Fl},decFK es=some fs→es.length=fs.length∧∀ (i:Nat) (f:Fl),fs[i]?=some f→∃ v:AV,es[i]?=some (AV.agg f.row,v)
 | [],fs,h=>by injection h with h; subst h; exact ⟨rfl,fun i f hf=>by simp at hf⟩
 | (k,v)::t,fs,h=>by
  unfold decFK at h;split at h
  ·rename_i e; cases e
  ·rename_i r v' t' e
   obtain ⟨⟨rfl,rfl⟩,rfl⟩:(k=.agg r∧v=v')∧t=t':=by simpa using e
   split at h
   ·rename_i f l hf hl
    injection h with h; subst h
    obtain ⟨h1,h2⟩:=decFK_get hl;obtain rfl:=decFl_of hf;refine ⟨by simp [h1],fun i g hg=>?_⟩
    cases i with
    | zero=>simp at hg; subst hg; exact ⟨v,by simp⟩
    | succ i=>obtain ⟨v,hv⟩:=h2 i g (by simpa using hg); exact ⟨v,by simpa using hv⟩
   ·cases h
  ·cases h
def FH(P:Heap)(m n:Nat)(ts:List Fl)(seen:List Nat)(x:Heap):Heap:=P++(.arr 9 ts.length (flRows ts) true::.mit (some m) n seen n::x)
def FD(P:Heap)(ver:Nat)(ts:List Fl):Heap:=P++[.arr 9 ver (flRows ts) true,.dead]
section
variable {h x:Heap} {m n l:Nat} {ts:List Fl} {seen:List Nat} {t:Fl} {b:Blk} {es:List (AV×AV)}
theorem FH_len:(FH h m n ts seen x).length=h.length+2+x.length:=by simp [FH]; omega
theorem FH_get(hb:h[l]?=some b):(FH h m n ts seen x)[l]?=some b:=get_more hb
theorem FH_arr:(FH h m n ts seen x)[h.length]?=some (.arr 9 ts.length (flRows ts) true):=by
 unfold FH; rw [List.getElem?_append_right (by simp)]; simp
theorem FH_mit:(FH h m n ts seen x)[h.length+1]?=some (.mit (some m) n seen n):=by
 unfold FH; rw [List.getElem?_append_right (by simp)]; simp
theorem FH_step{s':List Nat}:(FH h m n ts seen x).set (h.length+1) (.mit (some m) n s' n)=FH h m n ts s' x:=by
 unfold FH; rw [List.set_append_right _ _ (by simp)]; simp
theorem FH_dead:(FH h m n ts seen []).set (h.length+1) .dead=FD h ts.length ts:=by
 unfold FH FD; rw [List.set_append_right _ _ (by simp)]; simp
theorem FH_cut{fr:List (Nat×AV)}(hlow:lowH h.length h=true)(hm:m<h.length)(hf:lowFr (h.length+2) fr=true):trunc (h.length+2) fr (FH h m n ts seen x)=FH h m n ts seen []:=by
 have e:FH h m n ts seen x=FH h m n ts seen []++x:=by simp [FH]
 rw [e]
 refine trunc_low (by simp [FH]) hf ?_
 unfold FH
 refine lowH_app (lowH_up (by omega) hlow) ?_
 simp [lowH,lowB]; omega
theorem FH_mnx(hm:h[m]?=some (.map es))(hn:es.length=n):mnxAV (FH h m n ts seen x) (h.length+1)=(match left n seen with
  | []=>some [(.tup [.bool false],(FH h m n ts seen x).set (h.length+1) .dead)]
  | i::is=>some ((i::is).map fun i=>(.tup [.bool true,(es[i]?.getD (.junk,.junk)).1,(es[i]?.getD (.junk,.junk)).2],FH h m n ts (seen++[i]) x))):=by
 unfold mnxAV
 rw [FH_mit]
 simp only [FH_get hm,hn,and_self,if_true,left]
 split <;> rename_i hl
 ·rw [hl]
 ·rw [hl]; simp only [FH_step]
theorem FH_ent{i:Nat}{a b:AV}(hm:h[m]?=some (.map es))(hn:es.length=n)(hi:es[i]?=some (a,b)):entAV (FH h m n ts (seen++[i]) x) (h.length+1)=some (.tup [a,b]):=by
 unfold entAV
 rw [FH_mit]
 simp [FH_get hm,hn,hi]
theorem FH_app{G:Gam}(hl:ts.length≤1000):opV G false (FH h m n ts seen x) (.app false 9 104) (some [.own h.length ts.length ts.length,.tsl [t.row]])=some (.own h.length (ts++[t]).length (ts++[t]).length,FH h m n (ts++[t]) seen x):=by
 have:=op_app (G:=G) (s:=false) (h:=FH h m n ts seen x) (n:=9) (b:=104) (l:=h.length) (ver:=ts.length) (k:=ts.length) (x:=.tsl [t.row]) (new:=[t.row]) (rows:=flRows ts) rfl FH_arr (by simp) (by simp [sizesOk,Fl.row]) (by simp) (by unfold byteMax; simp; omega) (by unfold byteMax; simp; omega)
 rw [this]
 congr 2
 ·simp
 ·unfold FH; rw [List.set_append_right _ _ (by simp)]; simp [flRows]
end
def pickF(fs:List Fl)(seen:List Nat):List Fl:=seen.filterMap fun i=>fs[i]?
theorem range_fs(fs:List Fl):(List.range fs.length).filterMap (fun i=>fs[i]?)=fs:=by
 induction fs with
 | nil=>rfl
 | cons x r ih=>
  rw [List.length_cons,List.range_succ_eq_map,List.filterMap_cons];simp only [List.getElem?_cons_zero,List.filterMap_map];congr 1
theorem pickF_all{fs:List Fl}{seen:List Nat}(hn:seen.Nodup)(hs:∀ i∈seen,i<fs.length)(hall:∀ i,i<fs.length→i∈seen):(pickF fs seen).Perm fs:=by
 have hp:seen.Perm (List.range fs.length):=(List.perm_ext_iff_of_nodup hn List.nodup_range).2 fun a=>⟨fun h=>List.mem_range.2 (hs a h),fun h=>hall a (List.mem_range.1 h)⟩
 have:=hp.filterMap fun i=>fs[i]?
 rw [range_fs]at this
 exact this
def vs0:List AV:=[.str [],.str [],.int .i64 0,.int .i64 0,.str [],.str [],.int .i64 0,.int .i64 0,.int .i64 0]
theorem fl_st2{G:Gam}{H:Heap}{f:Fl}(st:Bool):opV G st (H++[.cells vs0]) (.st 9) (some [.ptr H.length 0,.agg f.row])=some (.junk,H++[.cells f.row]):=by
 have e:(H++[Blk.cells vs0])[H.length]?=some (.cells vs0):=by simp
 have e2:setAt vs0 0 (AV.agg f.row).cells=f.row:=rfl
 have e3:(AV.agg f.row).cells.length=9:=rfl
 have e4:(AV.agg f.row).cells.all oneC=true:=rfl
 have e5:vs0.length=9:=rfl
 rw [op_st]
 simp only [stAV,e3,e4,e,e5,e2]
 simp
theorem flows_L1{G:Gam}(hS:G Fn.q14=some (.gen F_sortFl)){P:Heap}{q m m2:Nat}{tg:Option TypeId}{es es2:List (AV×AV)}{fs:List Fl}{a0 a1 a4 a5 a6 a8 a9 a38 a49 a65 a75 a76 a77:AV}
  (hlow:lowH P.length P=true) (hm:P[m]?=some (.map es)) (hd:decFK es=some fs) (hq:P[q]?=some (.cellsT tg [.map m2])) (hm2:P[m2]?=some (.map es2)) (h0:0<fs.length) (h12:fs.length≤12) (hok:fs.all (okFlB es2)=true) (hord:ordF (cfE es2) (sortFl es2 fs)=true)
  (hfr:∀ k,lowFr (P.length+2) [(0,a0),(1,a1),(4,a4),(5,a5),(6,a6),(7,.ptr q 0),(8,a8),(9,a9),(10,.own P.length k k),(11,.junk),(38,a38),(49,a49),(65,a65),(75,a75),(76,a76),(77,a77),(88,.ptr (P.length+1) 0)]=true) :
  ∀ (N:Nat) (seen:List Nat) (ts:List Fl),(left fs.length seen).length≤N→seen.Nodup→(∀ i∈seen,i<fs.length)→ts=pickF fs seen→
  headM G [11] Mc.q41_L1 (P.length+2) [.blk 3,.seq flTail] (genQ Rs.q41 (.own P.length fs.length fs.length) (FD P fs.length (sortFl es2 fs)))
   [(0,a0),(1,a1),(4,a4),(5,a5),(6,a6),(7,.ptr q 0),(8,a8),(9,a9),(10,.own P.length ts.length ts.length),(11,.junk),(38,a38),(49,a49),(65,a65),(75,a75),(76,a76),(77,a77),(88,.ptr (P.length+1) 0)] (FH P m fs.length ts seen []):=by
 obtain ⟨hel,hek⟩:=decFK_get hd
 have hml:m<P.length:=(List.getElem?_eq_some_iff.1 hm).1
 have hql:q<P.length:=(List.getElem?_eq_some_iff.1 hq).1
 have hm2l:m2<P.length:=(List.getElem?_eq_some_iff.1 hm2).1
 have jk:∀ t10 t11,junkAll [11] [(0,a0),(1,a1),(4,a4),(5,a5),(6,a6),(7,.ptr q 0),(8,a8),(9,a9),(10,t10),(11,t11),(38,a38),(49,a49),(65,a65),(75,a75),(76,a76),(77,a77),(88,AV.ptr (P.length+1) 0)]=[(0,a0),(1,a1),(4,a4),(5,a5),(6,a6),(7,.ptr q 0),(8,a8),(9,a9),(10,t10),(11,.junk),(38,a38),(49,a49),(65,a65),(75,a75),(76,a76),(77,a77),(88,.ptr (P.length+1) 0)]:=fun _ _=>rfl
 have fin:∀ (seen:List Nat) (ts:List Fl),left fs.length seen=[]→seen.Nodup→(∀ i∈seen,i<fs.length)→ts=pickF fs seen→
   headM G [11] Mc.q41_L1 (P.length+2) [.blk 3,.seq flTail] (genQ Rs.q41 (.own P.length fs.length fs.length) (FD P fs.length (sortFl es2 fs)))
   [(0,a0),(1,a1),(4,a4),(5,a5),(6,a6),(7,.ptr q 0),(8,a8),(9,a9),(10,.own P.length ts.length ts.length),(11,.junk),(38,a38),(49,a49),(65,a65),(75,a75),(76,a76),(77,a77),(88,.ptr (P.length+1) 0)] (FH P m fs.length ts seen []):=by
  intro seen ts hl hnd hs hts;have hperm:ts.Perm fs:=by rw [hts]; exact pickF_all hnd hs (left_nil hl)
  have hlen:=hperm.length_eq;have hso:=sort_one hord hperm;have g1:(FD P ts.length ts)[P.length]?=some (.arr 9 ts.length (flRows ts) true):=by
   unfold FD; rw [List.getElem?_append_right (by simp)]; simp
  have g2:flAt (FD P ts.length ts) q P.length=some es2:=by
   unfold flAt FD;rw [get_more hq];simp only [];rw [if_neg (by omega),get_more hm2]
  have hokt:ts.all (okFlB es2)=true:=by
   rw [List.all_eq_true]at hok ⊢;exact fun f hf=>hok f (hperm.mem_iff.1 hf)
  have cs:opV G false (FD P ts.length ts) (.call Fn.q14) (some [.own P.length ts.length ts.length,.fn Fn.q35 [.ptr q 0]])=some (.tup [],FD P fs.length (sortFl es2 fs)):=by
   rw [op_call_gen hS];simp only [F_sortFl,if_true];unfold flSort;rw [g1];simp only [dec_flRows,g2];rw [if_pos ⟨trivial,trivial,by omega,by omega,hokt⟩,hso,hlen];congr 2
   unfold Hs FD; rw [List.set_append_right _ _ (by simp)]; simp
  refine head_go (Mc.q41_L1.eq_1) ?_
  rw [jk,FH_cut hlow hml (hfr _)];rw [go_seq,go_rgn];show altM G (some 89) false _ _ _ _ (mnxAV (FH P m fs.length ts seen []) (P.length+1))
  rw [FH_mnx hm hel,hl];intro r hr;rcases List.mem_singleton.1 hr with rfl
  rw [FH_dead];generalize FD P ts.length ts=H1 at *;generalize FD P fs.length (sortFl es2 fs)=H2 at *;rw [hlen]at cs;simp [flTail,cs,genQ,Rs.q41,hlen]
 intro N
 induction N with
 | zero=>
  intro seen ts hN hnd hs hts;exact fin seen ts (List.eq_nil_of_length_eq_zero (by omega)) hnd hs hts
 | succ N ih=>
  intro seen ts hN hnd hs hts;cases hl:left fs.length seen with
  | nil=>exact fin seen ts hl hnd hs hts
  | cons i0 is0=>
   refine head_go (Mc.q41_L1.eq_1) ?_
   rw [jk,FH_cut hlow hml (hfr _)];rw [go_seq,go_rgn];show altM G (some 89) false _ _ _ _ (mnxAV (FH P m fs.length ts seen []) (P.length+1))
   rw [FH_mnx hm hel,hl];intro r hr;obtain ⟨i,hi,rfl⟩:=List.mem_map.1 hr;rw [← hl]at hi;obtain ⟨hip,his⟩:=left_mem.1 hi;have hp:fs[i]?=some fs[i]:=List.getElem?_eq_getElem hip;generalize hpe:fs[i]=f at hp;obtain ⟨v,hes⟩:=hek i f hp;have hent:=FH_ent (ts:=ts) (seen:=seen) (x:=[]) hm hel hes;have hN':(left fs.length (seen++[i])).length≤N:=by have:=left_snoc hi; omega
   have hnd':(seen++[i]).Nodup:=by
    rw [List.nodup_append]; exact ⟨hnd,by simp,fun a ha b hb=>by simp at hb; subst hb; exact fun e=>his (e▸ha)⟩
   have hs':∀ j∈seen++[i],j<fs.length:=fun j hj=>by
    rcases List.mem_append.1 hj with hj | hj
    ·exact hs j hj
    ·simp at hj; subst hj; exact hip
   have hts1:ts.length≤1000:=by
    have h1:ts.length≤seen.length:=by rw [hts]; exact List.length_filterMap_le _ _
    have h2:=List.Nodup.length_le_of_subset hnd (l₂:=List.range fs.length) fun a ha=>List.mem_range.2 (hs a ha)
    simp at h2; omega
   have hts':ts++[f]=pickF fs (seen++[i]):=by unfold pickF; rw [List.filterMap_append,hts]; simp [pickF,hp]
   have next:=ih (seen++[i]) (ts++[f]) hN' hnd' hs' hts'
   have e1:∀ ts' x,FH P m fs.length ts' (seen++[i]) x=FH P m fs.length ts' (seen++[i]) []++x:=fun ts' x=>by simp [FH]
   have hl1:∀ ts',(FH P m fs.length ts' (seen++[i]) []).length=P.length+2:=fun ts'=>by simp [FH_len]
   have st:=fl_st2 (G:=G) (H:=FH P m fs.length ts (seen++[i]) []) (f:=f);unfold vs0 at st;have ld:loadAV 9 true (FH P m fs.length ts (seen++[i]) []++[.cells f.row]) (.ptr (P.length+2) 0)=some (.agg f.row):=ld_all (l:=P.length+2) (vs:=f.row) (by rw [← hl1 ts]; simp) rfl;have ap:=FH_app (G:=G) (h:=P) (m:=m) (n:=fs.length) (ts:=ts) (seen:=seen++[i]) (x:=[.cells f.row]) (t:=f) hts1;have ct:∀ t11,trunc (P.length+2) [(0,a0),(1,a1),(4,a4),(5,a5),(6,a6),(7,.ptr q 0),(8,a8),(9,a9),(10,.own P.length (ts++[f]).length (ts++[f]).length),(11,.junk),(38,a38),(49,a49),(65,a65),(75,a75),(76,a76),(77,a77),(88,.ptr (P.length+1) 0)] (FH P m fs.length (ts++[f]) (seen++[i]) []++[t11])=FH P m fs.length (ts++[f]) (seen++[i]) []:=fun t11=>by rw [← e1]; exact FH_cut hlow hml (hfr _)
   rw [e1,e1 (ts++[f])]at ap;rw [hl1]at st;have bs:∀ st h,opV G st h (.bsl false 9) (some [.agg f.row])=some (.tsl [f.row],h):=fun st h=>by rw [op_bsl rfl]; rfl
   have hl2:=hl1 ts;have hes2:((es[i]?.getD (.junk,.junk)).1)=.agg f.row:=by rw [hes]; rfl
   rw [hes2];generalize (es[i]?.getD (.junk,.junk)).2=VV;generalize FH P m fs.length ts (seen++[i]) []=H1 at *;generalize FH P m fs.length (ts++[f]) (seen++[i]) []=H2 at *;generalize (ts++[f]).length=K2 at *;generalize f.row=RW at *;simp [hent,hl2,st,ld,bs,ap,-loadAV,-op_bsl,-op_st];refine head_of ?_
   rw [jk,ct];exact next
def flKeys:List Nat:=[0,1,4,5,6,7,8,9,10,11,38,49,65,75,76,77,88]
def flEnd(fr:List (Nat×AV))(H:Heap):Option (AV×Heap):=match getT [] fr 7,getT [] fr 10,getT [] fr 11,getT [] fr 88 with
 | some (.ptr q 0),some (.own l 0 0),some .junk,some (.ptr it 0)=>match H.drop l with
  | [.arrX false none 9 0 [] true,.mit (some m) n [] n']=>match (H.take l)[m]?,(H.take l)[q]? with
   | some (.map es),some (.cellsT _ [.map m2])=>match decFK es,(H.take l)[m2]? with
    | some fs,some (.map es2)=>if fr.map (·.1)=flKeys∧it=l+1∧n=fs.length∧n'=fs.length∧lowH l (H.take l)=true∧lowFr (l+2) fr=true∧0<fs.length∧fs.length≤12∧fs.all (okFlB es2)=true∧ordF (cfE es2) (sortFl es2 fs)=true then
      some (.own l fs.length fs.length,FD (H.take l) fs.length (sortFl es2 fs))else none
    | _,_=>none
   | _,_=>none
  | _=>none
 | _,_,_,_=>none
def F_flows(G:Gam):List AV→Heap→Option (AV×Heap):=fun args h=>match runW G 2000 flPre [] (frInit Ks.q41 args) h with
 | some [(.normal,_,fr,H)]=>flEnd fr H
 | _=>none
theorem flows_ok{G:Gam}(hS:G Fn.q14=some (.gen F_sortFl)):∀ args h r h',F_flows G args h=some (r,h')→
  wpM G Mc.q41 (genQ Rs.q41 r h') [] (frInit Ks.q41 args) h:=by
 intro args h r h' hF
 unfold F_flows at hF
 split at hF
 ·rename_i env fr H hr
  refine fl_wp ?_
  refine runW_sound (Q:=seqQ (fun _ env fr h=>wpM G (.seq (.blk 3 (.loop [11] Mc.q41_L1)) flTail) (genQ Rs.q41 r h') env fr h) (genQ Rs.q41 r h')) flPre hr fun o ho=>?_
  rcases List.mem_singleton.1 ho with rfl
  show wpM G (.seq (.blk 3 (.loop [11] Mc.q41_L1)) flTail) (genQ Rs.q41 r h') env fr H
  clear hr ho;unfold flEnd at hF;split at hF
  ·rename_i q l it g7 g10 g11 g88
   split at hF
   ·rename_i m n n' hdr
    split at hF
    ·rename_i es tg m2 hm hq
     split at hF
     ·rename_i fs es2 hd hm2
      split at hF
      ·rename_i hc
       obtain ⟨hk,rfl,rfl,rfl,hlow,hlf,h0,h12,hok,hord⟩:=hc;simp only [Option.some.injEq,Prod.mk.injEq]at hF;obtain ⟨rfl,rfl⟩:=hF;have hlen:H.length=l+2:=by
        have:=congrArg List.length hdr;simp at this; omega
       have hH:H=H.take l++[.arr 9 0 [] true,.mit (some m) fs.length [] fs.length]:=by rw [← hdr]; exact (List.take_append_drop l H).symm
       have hPl:(H.take l).length=l:=by simp; omega
       generalize H.take l=P at *;subst hPl;subst hH;unfold flKeys at hk;obtain ⟨⟨k0,a0⟩,fr,rfl⟩:∃ p fr',fr=p::fr':=by cases fr with
        | nil=>simp at hk
        | cons p fr'=>exact ⟨p,fr',rfl⟩
       simp only [List.map_cons,List.cons.injEq]at hk;obtain ⟨rfl,hk⟩:=hk;obtain ⟨⟨k1,a1⟩,fr,rfl⟩:∃ p fr',fr=p::fr':=by cases fr with
        | nil=>simp at hk
        | cons p fr'=>exact ⟨p,fr',rfl⟩
       simp only [List.map_cons,List.cons.injEq]at hk;obtain ⟨rfl,hk⟩:=hk;obtain ⟨⟨k4,a4⟩,fr,rfl⟩:∃ p fr',fr=p::fr':=by cases fr with
        | nil=>simp at hk
        | cons p fr'=>exact ⟨p,fr',rfl⟩
       simp only [List.map_cons,List.cons.injEq]at hk;obtain ⟨rfl,hk⟩:=hk;obtain ⟨⟨k5,a5⟩,fr,rfl⟩:∃ p fr',fr=p::fr':=by cases fr with
        | nil=>simp at hk
        | cons p fr'=>exact ⟨p,fr',rfl⟩
       simp only [List.map_cons,List.cons.injEq]at hk;obtain ⟨rfl,hk⟩:=hk;obtain ⟨⟨k6,a6⟩,fr,rfl⟩:∃ p fr',fr=p::fr':=by cases fr with
        | nil=>simp at hk
        | cons p fr'=>exact ⟨p,fr',rfl⟩
       simp only [List.map_cons,List.cons.injEq]at hk;obtain ⟨rfl,hk⟩:=hk;obtain ⟨⟨k7,a7⟩,fr,rfl⟩:∃ p fr',fr=p::fr':=by cases fr with
        | nil=>simp at hk
        | cons p fr'=>exact ⟨p,fr',rfl⟩
       simp only [List.map_cons,List.cons.injEq]at hk;obtain ⟨rfl,hk⟩:=hk;obtain ⟨⟨k8,a8⟩,fr,rfl⟩:∃ p fr',fr=p::fr':=by cases fr with
        | nil=>simp at hk
        | cons p fr'=>exact ⟨p,fr',rfl⟩
       simp only [List.map_cons,List.cons.injEq]at hk;obtain ⟨rfl,hk⟩:=hk;obtain ⟨⟨k9,a9⟩,fr,rfl⟩:∃ p fr',fr=p::fr':=by cases fr with
        | nil=>simp at hk
        | cons p fr'=>exact ⟨p,fr',rfl⟩
       simp only [List.map_cons,List.cons.injEq]at hk;obtain ⟨rfl,hk⟩:=hk;obtain ⟨⟨k10,a10⟩,fr,rfl⟩:∃ p fr',fr=p::fr':=by cases fr with
        | nil=>simp at hk
        | cons p fr'=>exact ⟨p,fr',rfl⟩
       simp only [List.map_cons,List.cons.injEq]at hk;obtain ⟨rfl,hk⟩:=hk;obtain ⟨⟨k11,a11⟩,fr,rfl⟩:∃ p fr',fr=p::fr':=by cases fr with
        | nil=>simp at hk
        | cons p fr'=>exact ⟨p,fr',rfl⟩
       simp only [List.map_cons,List.cons.injEq]at hk;obtain ⟨rfl,hk⟩:=hk;obtain ⟨⟨k38,a38⟩,fr,rfl⟩:∃ p fr',fr=p::fr':=by cases fr with
        | nil=>simp at hk
        | cons p fr'=>exact ⟨p,fr',rfl⟩
       simp only [List.map_cons,List.cons.injEq]at hk;obtain ⟨rfl,hk⟩:=hk;obtain ⟨⟨k49,a49⟩,fr,rfl⟩:∃ p fr',fr=p::fr':=by cases fr with
        | nil=>simp at hk
        | cons p fr'=>exact ⟨p,fr',rfl⟩
       simp only [List.map_cons,List.cons.injEq]at hk;obtain ⟨rfl,hk⟩:=hk;obtain ⟨⟨k65,a65⟩,fr,rfl⟩:∃ p fr',fr=p::fr':=by cases fr with
        | nil=>simp at hk
        | cons p fr'=>exact ⟨p,fr',rfl⟩
       simp only [List.map_cons,List.cons.injEq]at hk;obtain ⟨rfl,hk⟩:=hk;obtain ⟨⟨k75,a75⟩,fr,rfl⟩:∃ p fr',fr=p::fr':=by cases fr with
        | nil=>simp at hk
        | cons p fr'=>exact ⟨p,fr',rfl⟩
       simp only [List.map_cons,List.cons.injEq]at hk;obtain ⟨rfl,hk⟩:=hk;obtain ⟨⟨k76,a76⟩,fr,rfl⟩:∃ p fr',fr=p::fr':=by cases fr with
        | nil=>simp at hk
        | cons p fr'=>exact ⟨p,fr',rfl⟩
       simp only [List.map_cons,List.cons.injEq]at hk;obtain ⟨rfl,hk⟩:=hk;obtain ⟨⟨k77,a77⟩,fr,rfl⟩:∃ p fr',fr=p::fr':=by cases fr with
        | nil=>simp at hk
        | cons p fr'=>exact ⟨p,fr',rfl⟩
       simp only [List.map_cons,List.cons.injEq]at hk;obtain ⟨rfl,hk⟩:=hk;obtain ⟨⟨k88,a88⟩,fr,rfl⟩:∃ p fr',fr=p::fr':=by cases fr with
        | nil=>simp at hk
        | cons p fr'=>exact ⟨p,fr',rfl⟩
       simp only [List.map_cons,List.cons.injEq]at hk;obtain ⟨rfl,hk⟩:=hk;obtain rfl:fr=[]:=by simpa using hk
       have g7:some a7=some (AV.ptr q 0):=g7;have g10:some a10=some (AV.own P.length 0 0):=g10;have g11:some a11=some AV.junk:=g11;have g88:some a88=some (AV.ptr (P.length+1) 0):=g88;obtain rfl:=Option.some.inj g7;obtain rfl:=Option.some.inj g10;obtain rfl:=Option.some.inj g11;obtain rfl:=Option.some.inj g88;have hfr:∀ k,lowFr (P.length+2) [(0,a0),(1,a1),(4,a4),(5,a5),(6,a6),(7,.ptr q 0),(8,a8),(9,a9),(10,.own P.length k k),(11,.junk),(38,a38),(49,a49),(65,a65),(75,a75),(76,a76),(77,a77),(88,.ptr (P.length+1) 0)]=true:=fun k=>by
        simp only [lowFr]at hlf ⊢;exact hlf
       have L1:=flows_L1 hS hlow hm hd hq hm2 h0 h12 hok hord hfr fs.length [] [] (left_le _ _) List.nodup_nil (fun _ hi=>by cases hi) rfl;have e1:FH P m fs.length [] [] []=P++[.arr 9 0 [] true,.mit (some m) fs.length [] fs.length]:=rfl;rw [e1]at L1;rw [wpM_go];simp;exact L1
      ·cases hF
     ·cases hF
    ·cases hF
   ·cases hF
  ·cases hF
 ·cases hF
end Go.Proofs.YtbfcbkjemlgnpaaGreatDoor
namespace Go.Proofs.YtbfcbkjemlgnpaaGreatDoor
open Go.RowKit Go.Lib
def decS1:List (List AV)→Option (List Bs)
 | []=>some []
 | [.str s]::r=>(decS1 r).map (s::·)
 | _=>none
theorem decS1_of:∀ {rows:List (List AV)} {ss:List Bs},decS1 rows=some ss→rows=ss.map fun s=>[AV.str s]
 | [],ss,h=>by injection h with h; subst h; rfl
 | row::r,ss,h=>by
  unfold decS1 at h;split at h
  ·rename_i e; cases e
  ·rename_i s t e
   obtain ⟨rfl,rfl⟩:row=[AV.str s]∧r=t:=by simpa using e
   cases ht:decS1 r with
   | none=>rw [ht]at h; cases h
   | some l=>
    rw [ht]at h;injection h with h; subst h
    rw [decS1_of ht]; rfl
  ·cases h
def F_JoinS:List AV→Option AV
 | [.sl rows,.str sep]=>match decS1 rows with
  | some ss=>if ss.length≤140737488355328∧(Lib.join ss sep).length≤140737488355328 then some (.str (Lib.join ss sep))else none
  | none=>none
 | _=>none
theorem joinS_pure{P:Program}{gv:Gv}{f:Nat}
  (h0:∀ (a:Option Addr) (c:Nat) (sep:ByteArray) (w:World),Calls P f #[.slice a 0 c,.string sep] w fun e w'=>e=.returned (.string ⟨#[]⟩)∧w'=w)
  (h1:∀ (bk o c:Nat) (xs:List ByteArray) (sep:ByteArray) (w:World),(∀ (j:Nat) x,xs[j]?=some x→w.cell? ⟨bk,o+j,none⟩=some (.string x))→bk<w.heap.size→xs.length≤140737488355328→xs.length≤c→(Lib.join (xs.map (·.data.toList)) sep.data.toList).length≤140737488355328→
   Calls P f #[.slice (some ⟨bk,o,none⟩) xs.length c,.string sep] w fun e w'=>e=.returned (.string ⟨(Lib.join (xs.map (·.data.toList)) sep.data.toList).toArray⟩)∧Below w.heap.size w w'):PureOK P gv f F_JoinS:=by
 refine pure_same fun I w args r vals hI hgl hr hF=>?_
 unfold F_JoinS at hF
 split at hF
 ·rename_i rows sep
  split at hF
  ·rename_i ss hd
   split at hF
   ·rename_i hb
    injection hF with hF; subst hF
    obtain ⟨x,y,rfl,hx,hy⟩:=two_args hr;have:=str_inv hy; subst this;have hnil:∀ a c,Calls P f #[.slice a 0 c,.string ⟨sep.toArray⟩] w fun e w'=>(∃ v,e=.returned v∧Rel (Cx.pure I) (.str (Lib.join [] sep)) v)∧Below w.heap.size w w':=fun a c=>(h0 a c _ w).mono fun e w' hk=>by
     obtain ⟨rfl,rfl⟩:=hk;exact ⟨⟨_,rfl,.str []⟩,Below.refl _ _⟩
    obtain rfl:=decS1_of hd;cases ss with
    | nil=>
     generalize hrr:(List.map (fun s=>[AV.str s]) ([]:List Bs))=rr at hx;cases hx with
     | slnil=>exact hnil _ _
     | slz a cap=>exact hnil _ _
     | sl rows b o cap size us hcap hsz hc hrr2=>
      have:rr=[]:=hrr.symm;subst this;exact hnil _ _
    | cons s0 ss=>
     generalize hrr:(List.map (fun s=>[AV.str s]) (s0::ss))=rr at hx;cases hx with
     | slnil=>cases hrr
     | slz a cap=>cases hrr
     | sl rows b o cap size us hcap hsz hc hrr2=>
      subst hrr;have hs1:size=1:=(hsz 0 [AV.str s0] rfl).symm;subst hs1;have hcell:∀ (j:Nat) s,(s0::ss)[j]?=some s→w.cell? ⟨b,o+j,none⟩=some (.string ⟨s.toArray⟩):=fun j s hj=>by
       have e1:(List.map (fun s=>[AV.str s]) (s0::ss))[j]?=some [AV.str s]:=by rw [List.getElem?_map,hj]; rfl
       have h2:=hc j _ 0 (.str s) e1 rfl;have h3:=hrr2 j _ 0 (.str s) e1 rfl;have:=str_inv h3;rw [this]at h2;have h4:=hI.cell _ _ _ h2;simpa using h4
      have hbk:b<w.heap.size:=cell_lt (hcell 0 s0 rfl);have:=h1 b o cap ((s0::ss).map fun s=>(⟨s.toArray⟩:ByteArray)) ⟨sep.toArray⟩ w (fun j x hj=>by
       rw [List.getElem?_map]at hj;cases hjs:(s0::ss)[j]? with
       | none=>rw [hjs]at hj; cases hj
       | some s=>rw [hjs]at hj; injection hj with hj; subst hj; exact hcell j s hjs) hbk (by simpa using hb.1) (by simpa using hcap) (by simpa [List.map_map,Function.comp_def] using hb.2)
      have el:((s0::ss).map fun s=>(⟨s.toArray⟩:ByteArray)).length=(List.map (fun s=>[AV.str s]) (s0::ss)).length:=by simp
      rw [el]at this;refine this.mono fun e w' hk=>?_
      obtain ⟨rfl,hbel⟩:=hk;refine ⟨⟨_,rfl,?_⟩,hbel⟩
      have e2:(Lib.join (((s0::ss).map fun s=>(⟨s.toArray⟩:ByteArray)).map (·.data.toList)) (ByteArray.mk sep.toArray).data.toList)=Lib.join (s0::ss) sep:=by simp [List.map_map,Function.comp_def]
      rw [e2];exact .str _
   ·cases hF
  ·cases hF
 ·cases hF
theorem joinS_ok(gv:Gv):PureOK Tryz.prog gv Fn.q113 F_JoinS:=
 joinS_pure (fun a c sep w=>Tryz.strings_Join_none a c sep w) (fun bk o c xs sep w h1 h2 h3 h4 h5=>Tryz.strings_Join bk o c xs sep w h1 h2 h3 h4 h5)
end Go.Proofs.YtbfcbkjemlgnpaaGreatDoor
