/- The resolved functions are the functio -/
import Derived.Test.YtdebajodkallbaaGreatDoorS8
import Derived.Test.YtdebajodkallbaaGreatDoorAwA
namespace Go.Proofs.YtdebajodkallbaaGreatDoor
open Go.RowKit
noncomputable section
section
open Go.Lib
theorem VD:Tryz.prog.underlying 32=some (.slice 73):=by kernel_rfl
theorem yT2:∃(a:TypeInfo)(z:Value),Tryz.prog.info? 73=some a/\a.zero=some z/\a.size=5/\a.bytes=56/\z.cells.size=5:=⟨(Tryz.prog.info? 73).getD default,(((Tryz.prog.info? 73).getD default).zero).getD (.bool false),by kernel_rfl,by kernel_rfl,by kernel_rfl,by kernel_rfl,by kernel_rfl⟩
theorem zl6(w:World)(a:Option Addr)(n c d b:Nat):(binOp .eql 32 (.slice a n c) (.slice none d b)).run Tryz.prog w=.ok (.bool a.isNone) w:=Lib.run_eql_slice_nil w _ _ a n c d b VD
set_option maxHeartbeats 2000000 in set_option maxRecDepth 100000 in theorem yp0(a:Addr)(n c:Nat)(news:List Value)(w:World)(hl:news.length=n*5)(hn:n<=maxLen)(hbig:n*56<=140737488355328)(hc:∀j u,news[j]?=some u->w.cell? (a.add j)=some u)(h1:∀u∈news,u.oneCell'=true):Calls Tryz.prog 103 #[.slice (some a) n c] w fun o w'=>(∃v',o=.returned v'/\w'.ownsRow w.heap.size 73 5 v' n news)/\Below w.heap.size w w':=by
 obtain⟨i0,z,hi,hz0,hz1,hz2,hzs⟩:=yT2;have mixed:=jP;have q:=zl6;have u:∀w,Sem.run Tryz.prog (underlying 32) w=.ok (TypeDesc.slice 73) w:=run_underlying VD;have A:Aside (∀j u,news[j]?=some u->w.cell? (a.add j)=some u):=hc;clear hc;go_enter Tryz.func103,Tryz.ntmps103;go_wp2_with(at_builtin;refine wpList_append_own _ rfl _ _ 32 rfl w.heap.size 73 i0 z 5 56 VD hi hz0 hz1 hz2 hzs (by decide) _ _ _ rfl (World.ownsRow_made w #[] 0 (dA _) (nZ _) (by simp)) a n c news rfl ?q1 ?q2 ?q3 ?q4 ?q5 ?q6 ?_);case q1=>exact hl
 case q2=>intro j u hj;exact Lib.cell?_alloc_some _ (A.out j u hj)
 case q3=>exact h1
 case q4=>rw[eR];exact hn
 case q5=>rw[eR];exact hbig
 case q6=>simp
 intro v' w1 hown hgrow hnil;go_wp2;go_ret;refine⟨⟨v',rfl,by simpa using hown⟩,?_⟩;exact((Below.refl _ w).alloc (dA _) _).grown hgrow (by simp) (by intro k hk;simp[Value.ownBlock]at hk;omega)
set_option maxHeartbeats 2000000 in set_option maxRecDepth 100000 in theorem yq1(n c:Nat)(w:World):Calls Tryz.prog 103 #[.slice none n c] w fun o w'=>o=.returned (.slice none 0 0)/\w'=w:=by
 have mixed:=jP;have q:=zl6;go_enter Tryz.func103,Tryz.ntmps103;go_wp2;go_ret;exact⟨rfl,rfl⟩
theorem yn9(a:Gv):fA Tryz.prog a 103 (jF 5 56):=vL yp0 yq1
theorem VE:Tryz.prog.underlying 33=some (.slice 3):=by kernel_rfl
theorem yS7:∃(a:TypeInfo)(z:Value),Tryz.prog.info? 3=some a/\a.zero=some z/\a.size=1/\a.bytes=8/\z.cells.size=1:=⟨(Tryz.prog.info? 3).getD default,(((Tryz.prog.info? 3).getD default).zero).getD (.bool false),by kernel_rfl,by kernel_rfl,by kernel_rfl,by kernel_rfl,by kernel_rfl⟩
theorem zl7(w:World)(a:Option Addr)(n c d b:Nat):(binOp .eql 33 (.slice a n c) (.slice none d b)).run Tryz.prog w=.ok (.bool a.isNone) w:=Lib.run_eql_slice_nil w _ _ a n c d b VE
set_option maxHeartbeats 2000000 in set_option maxRecDepth 100000 in theorem yp1(a:Addr)(n c:Nat)(news:List Value)(w:World)(hl:news.length=n*1)(hn:n<=maxLen)(hbig:n*8<=140737488355328)(hc:∀j u,news[j]?=some u->w.cell? (a.add j)=some u)(h1:∀u∈news,u.oneCell'=true):Calls Tryz.prog 104 #[.slice (some a) n c] w fun o w'=>(∃v',o=.returned v'/\w'.ownsRow w.heap.size 3 1 v' n news)/\Below w.heap.size w w':=by
 obtain⟨i0,z,hi,hz0,hz1,hz2,hzs⟩:=yS7;have mixed:=jP;have q:=zl7;have u:∀w,Sem.run Tryz.prog (underlying 33) w=.ok (TypeDesc.slice 3) w:=run_underlying VE;have A:Aside (∀j u,news[j]?=some u->w.cell? (a.add j)=some u):=hc;clear hc;go_enter Tryz.func104,Tryz.ntmps104;go_wp2_with(at_builtin;refine wpList_append_own _ rfl _ _ 33 rfl w.heap.size 3 i0 z 1 8 VE hi hz0 hz1 hz2 hzs (by decide) _ _ _ rfl (World.ownsRow_made w #[] 0 (dA _) (nZ _) (by simp)) a n c news rfl ?q1 ?q2 ?q3 ?q4 ?q5 ?q6 ?_);case q1=>exact hl
 case q2=>intro j u hj;exact Lib.cell?_alloc_some _ (A.out j u hj)
 case q3=>exact h1
 case q4=>rw[eR];exact hn
 case q5=>rw[eR];exact hbig
 case q6=>simp
 intro v' w1 hown hgrow hnil;go_wp2;go_ret;refine⟨⟨v',rfl,by simpa using hown⟩,?_⟩;exact((Below.refl _ w).alloc (dA _) _).grown hgrow (by simp) (by intro k hk;simp[Value.ownBlock]at hk;omega)
set_option maxHeartbeats 2000000 in set_option maxRecDepth 100000 in theorem yq2(n c:Nat)(w:World):Calls Tryz.prog 104 #[.slice none n c] w fun o w'=>o=.returned (.slice none 0 0)/\w'=w:=by
 have mixed:=jP;have q:=zl7;go_enter Tryz.func104,Tryz.ntmps104;go_wp2;go_ret;exact⟨rfl,rfl⟩
theorem yo0(a:Gv):fA Tryz.prog a 104 (jF 1 8):=vL yp1 yq2
theorem VF:Tryz.prog.underlying 34=some (.slice 78):=by kernel_rfl
theorem yT3:∃(a:TypeInfo)(z:Value),Tryz.prog.info? 78=some a/\a.zero=some z/\a.size=3/\a.bytes=40/\z.cells.size=3:=⟨(Tryz.prog.info? 78).getD default,(((Tryz.prog.info? 78).getD default).zero).getD (.bool false),by kernel_rfl,by kernel_rfl,by kernel_rfl,by kernel_rfl,by kernel_rfl⟩
theorem zl8(w:World)(a:Option Addr)(n c d b:Nat):(binOp .eql 34 (.slice a n c) (.slice none d b)).run Tryz.prog w=.ok (.bool a.isNone) w:=Lib.run_eql_slice_nil w _ _ a n c d b VF
set_option maxHeartbeats 2000000 in set_option maxRecDepth 100000 in theorem yp2(a:Addr)(n c:Nat)(news:List Value)(w:World)(hl:news.length=n*3)(hn:n<=maxLen)(hbig:n*40<=140737488355328)(hc:∀j u,news[j]?=some u->w.cell? (a.add j)=some u)(h1:∀u∈news,u.oneCell'=true):Calls Tryz.prog 105 #[.slice (some a) n c] w fun o w'=>(∃v',o=.returned v'/\w'.ownsRow w.heap.size 78 3 v' n news)/\Below w.heap.size w w':=by
 obtain⟨i0,z,hi,hz0,hz1,hz2,hzs⟩:=yT3;have mixed:=jP;have q:=zl8;have u:∀w,Sem.run Tryz.prog (underlying 34) w=.ok (TypeDesc.slice 78) w:=run_underlying VF;have A:Aside (∀j u,news[j]?=some u->w.cell? (a.add j)=some u):=hc;clear hc;go_enter Tryz.func105,Tryz.ntmps105;go_wp2_with(at_builtin;refine wpList_append_own _ rfl _ _ 34 rfl w.heap.size 78 i0 z 3 40 VF hi hz0 hz1 hz2 hzs (by decide) _ _ _ rfl (World.ownsRow_made w #[] 0 (dA _) (nZ _) (by simp)) a n c news rfl ?q1 ?q2 ?q3 ?q4 ?q5 ?q6 ?_);case q1=>exact hl
 case q2=>intro j u hj;exact Lib.cell?_alloc_some _ (A.out j u hj)
 case q3=>exact h1
 case q4=>rw[eR];exact hn
 case q5=>rw[eR];exact hbig
 case q6=>simp
 intro v' w1 hown hgrow hnil;go_wp2;go_ret;refine⟨⟨v',rfl,by simpa using hown⟩,?_⟩;exact((Below.refl _ w).alloc (dA _) _).grown hgrow (by simp) (by intro k hk;simp[Value.ownBlock]at hk;omega)
set_option maxHeartbeats 2000000 in set_option maxRecDepth 100000 in theorem yq3(n c:Nat)(w:World):Calls Tryz.prog 105 #[.slice none n c] w fun o w'=>o=.returned (.slice none 0 0)/\w'=w:=by
 have mixed:=jP;have q:=zl8;go_enter Tryz.func105,Tryz.ntmps105;go_wp2;go_ret;exact⟨rfl,rfl⟩
theorem yo1(a:Gv):fA Tryz.prog a 105 (jF 3 40):=vL yp2 yq3
theorem VG:Tryz.prog.underlying 35=some (.slice 82):=by kernel_rfl
theorem yT4:∃(a:TypeInfo)(z:Value),Tryz.prog.info? 82=some a/\a.zero=some z/\a.size=2/\a.bytes=24/\z.cells.size=2:=⟨(Tryz.prog.info? 82).getD default,(((Tryz.prog.info? 82).getD default).zero).getD (.bool false),by kernel_rfl,by kernel_rfl,by kernel_rfl,by kernel_rfl,by kernel_rfl⟩
theorem zl9(w:World)(a:Option Addr)(n c d b:Nat):(binOp .eql 35 (.slice a n c) (.slice none d b)).run Tryz.prog w=.ok (.bool a.isNone) w:=Lib.run_eql_slice_nil w _ _ a n c d b VG
set_option maxHeartbeats 2000000 in set_option maxRecDepth 100000 in theorem yp3(a:Addr)(n c:Nat)(news:List Value)(w:World)(hl:news.length=n*2)(hn:n<=maxLen)(hbig:n*24<=140737488355328)(hc:∀j u,news[j]?=some u->w.cell? (a.add j)=some u)(h1:∀u∈news,u.oneCell'=true):Calls Tryz.prog 106 #[.slice (some a) n c] w fun o w'=>(∃v',o=.returned v'/\w'.ownsRow w.heap.size 82 2 v' n news)/\Below w.heap.size w w':=by
 obtain⟨i0,z,hi,hz0,hz1,hz2,hzs⟩:=yT4;have mixed:=jP;have q:=zl9;have u:∀w,Sem.run Tryz.prog (underlying 35) w=.ok (TypeDesc.slice 82) w:=run_underlying VG;have A:Aside (∀j u,news[j]?=some u->w.cell? (a.add j)=some u):=hc;clear hc;go_enter Tryz.func106,Tryz.ntmps106;go_wp2_with(at_builtin;refine wpList_append_own _ rfl _ _ 35 rfl w.heap.size 82 i0 z 2 24 VG hi hz0 hz1 hz2 hzs (by decide) _ _ _ rfl (World.ownsRow_made w #[] 0 (dA _) (nZ _) (by simp)) a n c news rfl ?q1 ?q2 ?q3 ?q4 ?q5 ?q6 ?_);case q1=>exact hl
 case q2=>intro j u hj;exact Lib.cell?_alloc_some _ (A.out j u hj)
 case q3=>exact h1
 case q4=>rw[eR];exact hn
 case q5=>rw[eR];exact hbig
 case q6=>simp
 intro v' w1 hown hgrow hnil;go_wp2;go_ret;refine⟨⟨v',rfl,by simpa using hown⟩,?_⟩;exact((Below.refl _ w).alloc (dA _) _).grown hgrow (by simp) (by intro k hk;simp[Value.ownBlock]at hk;omega)
set_option maxHeartbeats 2000000 in set_option maxRecDepth 100000 in theorem yq4(n c:Nat)(w:World):Calls Tryz.prog 106 #[.slice none n c] w fun o w'=>o=.returned (.slice none 0 0)/\w'=w:=by
 have mixed:=jP;have q:=zl9;go_enter Tryz.func106,Tryz.ntmps106;go_wp2;go_ret;exact⟨rfl,rfl⟩
theorem yo2(a:Gv):fA Tryz.prog a 106 (jF 2 24):=vL yp3 yq4
theorem VH:Tryz.prog.underlying 36=some (.slice 63):=by kernel_rfl
theorem yT1:∃(a:TypeInfo)(z:Value),Tryz.prog.info? 63=some a/\a.zero=some z/\a.size=2/\a.bytes=32/\z.cells.size=2:=⟨(Tryz.prog.info? 63).getD default,(((Tryz.prog.info? 63).getD default).zero).getD (.bool false),by kernel_rfl,by kernel_rfl,by kernel_rfl,by kernel_rfl,by kernel_rfl⟩
theorem zm0(w:World)(a:Option Addr)(n c d b:Nat):(binOp .eql 36 (.slice a n c) (.slice none d b)).run Tryz.prog w=.ok (.bool a.isNone) w:=Lib.run_eql_slice_nil w _ _ a n c d b VH
set_option maxHeartbeats 2000000 in set_option maxRecDepth 100000 in theorem yp4(a:Addr)(n c:Nat)(news:List Value)(w:World)(hl:news.length=n*2)(hn:n<=maxLen)(hbig:n*32<=140737488355328)(hc:∀j u,news[j]?=some u->w.cell? (a.add j)=some u)(h1:∀u∈news,u.oneCell'=true):Calls Tryz.prog 107 #[.slice (some a) n c] w fun o w'=>(∃v',o=.returned v'/\w'.ownsRow w.heap.size 63 2 v' n news)/\Below w.heap.size w w':=by
 obtain⟨i0,z,hi,hz0,hz1,hz2,hzs⟩:=yT1;have mixed:=jP;have q:=zm0;have u:∀w,Sem.run Tryz.prog (underlying 36) w=.ok (TypeDesc.slice 63) w:=run_underlying VH;have A:Aside (∀j u,news[j]?=some u->w.cell? (a.add j)=some u):=hc;clear hc;go_enter Tryz.func107,Tryz.ntmps107;go_wp2_with(at_builtin;refine wpList_append_own _ rfl _ _ 36 rfl w.heap.size 63 i0 z 2 32 VH hi hz0 hz1 hz2 hzs (by decide) _ _ _ rfl (World.ownsRow_made w #[] 0 (dA _) (nZ _) (by simp)) a n c news rfl ?q1 ?q2 ?q3 ?q4 ?q5 ?q6 ?_);case q1=>exact hl
 case q2=>intro j u hj;exact Lib.cell?_alloc_some _ (A.out j u hj)
 case q3=>exact h1
 case q4=>rw[eR];exact hn
 case q5=>rw[eR];exact hbig
 case q6=>simp
 intro v' w1 hown hgrow hnil;go_wp2;go_ret;refine⟨⟨v',rfl,by simpa using hown⟩,?_⟩;exact((Below.refl _ w).alloc (dA _) _).grown hgrow (by simp) (by intro k hk;simp[Value.ownBlock]at hk;omega)
set_option maxHeartbeats 2000000 in set_option maxRecDepth 100000 in theorem yq5(n c:Nat)(w:World):Calls Tryz.prog 107 #[.slice none n c] w fun o w'=>o=.returned (.slice none 0 0)/\w'=w:=by
 have mixed:=jP;have q:=zm0;go_enter Tryz.func107,Tryz.ntmps107;go_wp2;go_ret;exact⟨rfl,rfl⟩
end
structure Lib24(m:GvP):Prop where
 split:dW Tryz.prog (gv1 m) Fn.ed CQ
 itoa:dW Tryz.prog (gv1 m) Fn.d7 sX
 idx:dW Tryz.prog (gv1 m) Fn.eh CP
 cut:dW Tryz.prog (gv1 m) Fn.ef wX
 hp:dW Tryz.prog (gv1 m) Fn.eb nS
 clone:dW Tryz.prog (gv1 m) Fn.ec qA
 dsum:dW Tryz.prog (gv1 m) Fn.co oT
 copyc:fA Tryz.prog (gv1 m) Fn.d9 (rH [95,396])cl1:fA Tryz.prog (gv1 m) Fn.ek (jF 5 56)cl2:fA Tryz.prog (gv1 m) Fn.en (jF 1 8)cl3:fA Tryz.prog (gv1 m) Fn.el (jF 3 40)cl4:fA Tryz.prog (gv1 m) Fn.ej (jF 2 24)cl5:fA Tryz.prog (gv1 m) Fn.eg (GD 2)awake:dW Tryz.prog (gv1 m) Fn.d8 CV
def Gs0:Gam:=Gam.none
theorem yB3(m:GvP)(_:Lib24 m):GamOK Tryz.prog (gv1 m) Gs0:=UV _
def Gs1:Gam:=Gs0.add Fn.ed (.pure CQ)
theorem yH4:CK Lib24 Gs1:=aH yB3 fun m H=>H.split
def Gs2:Gam:=Gs1.add Fn.d7 (.pure sX)
theorem yI5:CK Lib24 Gs2:=aH yH4 fun m H=>H.itoa
def Gs3:Gam:=Gs2.add Fn.eh (.pure CP)
theorem yJ6:CK Lib24 Gs3:=aH yI5 fun m H=>H.idx
def Gs4:Gam:=Gs3.add Fn.ef (.pure wX)
theorem yK7:CK Lib24 Gs4:=aH yJ6 fun m H=>H.cut
def Gs5:Gam:=Gs4.add Fn.eb (.pure nS)
theorem yL8:CK Lib24 Gs5:=aH yK7 fun m H=>H.hp
def Gs6:Gam:=Gs5.add Fn.ec (.pure qA)
theorem yM9:CK Lib24 Gs6:=aH yL8 fun m H=>H.clone
def Gs7:Gam:=Gs6.add Fn.dl (.pure qA)
theorem yO0:CK Lib24 Gs7:=aP yM9 (zb2 rfl)
def Gs8:Gam:=Gs7.add Fn.dm (.pure nS)
theorem yP1:CK Lib24 Gs8:=aP yO0 (zd3 rfl)
def Gs9:Gam:=Gs8.add Fn.c3 (.pure GX)
theorem yQ2:CK Lib24 Gs9:=aP yP1 (xs8 _)
def Gs10:Gam:=Gs9.add Fn.db (.pure GV)
theorem yC4:CK Lib24 Gs10:=aP yQ2 (xs4 _)
def Gs11:Gam:=Gs10.add Fn.b2 (.gen (cJ DE))
theorem yD5:CK Lib24 Gs11:=aL yC4 (xl3 rfl rfl)
def Gs12:Gam:=Gs11.add Fn.dd (.pure MU)
theorem yE6:CK Lib24 Gs12:=aP yD5 (xd7 _)
def Gs13:Gam:=Gs12.add Fn.cm (.gen (cJ (GO Gs12)))
theorem yF7:CK Lib24 Gs13:=aL yE6 (yS3 _)
def Gs14:Gam:=Gs13.add Fn.da (.gen (cJ (zS Gs12)))
theorem yG8:CK Lib24 Gs14:=aL yF7 (xr3 _ _ rfl)
def Gs15:Gam:=Gs14.add Fn.dx (.gen (cJ (GT Gs12)))
theorem yG9:CK Lib24 Gs15:=aL yG8 (xr2 _ _ rfl)
def Gs16:Gam:=Gs15.add Fn.dc (.pure SV)
theorem yH0:CK Lib24 Gs16:=aP yG9 (xd9 _ Gs12 rfl rfl)
def Gs17:Gam:=Gs16.add Fn.d1 (.pure SR)
theorem yH1:CK Lib24 Gs17:=aP yH0 (yc0 _ rfl)
def Gs18:Gam:=Gs17.add Fn.cb (.gen (cJ (oR false 1 Gs17)))
theorem yH2:CK Lib24 Gs18:=aL yH1 (yR7 _)
def Gs19:Gam:=Gs18.add Fn.d3 (.gen (cJ (oQ false 1 Gs17)))
theorem yH3:CK Lib24 Gs19:=aL yH2 (ys4 _ _ rfl)
def Gs20:Gam:=Gs19.add Fn.d0 (.pure uQ)
theorem yH5:CK Lib24 Gs20:=aP yH3 (yc1 _ Gs17 rfl rfl rfl)
def Gs21:Gam:=Gs20.add Fn.cf (.pure DF)
theorem yH6:CK Lib24 Gs21:=aP yH5 (xt9 (G0:=Gs12) rfl rfl)
def Gs22:Gam:=Gs21.add Fn.bf (.pure GZ)
theorem yH7:CK Lib24 Gs22:=aP yH6 (xt0 rfl)
def Gs23:Gam:=Gs22.add Fn.ac (.pure NC)
theorem yH8:CK Lib24 Gs23:=aP yH7 (xu2 rfl)
def Gs24:Gam:=Gs23.add Fn.av (.pure GY)
theorem yH9:CK Lib24 Gs24:=aP yH8 (xs9 rfl rfl rfl rfl rfl)
def Gs25:Gam:=Gs24.add Fn.cn (.pure HD)
theorem yI0:CK Lib24 Gs25:=aP yH9 (xu6 rfl)
def Gs26:Gam:=Gs25.add Fn.be (.pure iL)
theorem yI1:CK Lib24 Gs26:=aP yI0 (xr7 rfl)
def Gs27:Gam:=Gs26.add Fn.b6 (.pure HC)
theorem yI2:CK Lib24 Gs27:=aP yI1 (xt4)
def Gs28:Gam:=Gs27.add Fn.b7 (.pure HA)
theorem yI3:CK Lib24 Gs28:=aP yI2 (xt3)
def Gs29:Gam:=Gs28.add Fn.c2 (.pure zT)
theorem yI4:CK Lib24 Gs29:=aP yI3 (xt7 rfl rfl)
def Gs30:Gam:=Gs29.add Fn.cw (.pure xB)
theorem yI6:CK Lib24 Gs30:=aP yI4 (xx0)
def Gs31:Gam:=Gs30.add Fn.bl (.pure tA)
theorem yI7:CK Lib24 Gs31:=aP yI6 (yk0 rfl)
def Gs32:Gam:=Gs31.add Fn.b4 (.pure zQ)
theorem yI8:CK Lib24 Gs32:=aP yI7 (yZ4 rfl rfl)
def Gs33:Gam:=Gs32.add Fn.a2 (.pure tB)
theorem yI9:CK Lib24 Gs33:=aP yI8 (xf0 rfl rfl rfl)
def Gs34:Gam:=Gs33.add Fn.bu (.pure rJ)
theorem yJ0:CK Lib24 Gs34:=aP yI9 (zD2)
def Gs35:Gam:=Gs34.add Fn.ca (.pure GP)
theorem yJ1:CK Lib24 Gs35:=aP yJ0 (xa0 rfl)
def Gs36:Gam:=Gs35.add Fn.bt (.gen (cJ GG))
theorem yJ2:CK Lib24 Gs36:=aL yJ1 (ye8)
def Gs37:Gam:=Gs36.add Fn.cz (.gen (cJ DG))
theorem yJ3:CK Lib24 Gs37:=aL yJ2 (xx1)
def Gs38:Gam:=Gs37.add Fn.b8 (.gen (cJ DB))
theorem yJ4:CK Lib24 Gs38:=aL yJ3 (yy3)
def Gs39:Gam:=Gs38.add Fn.bm (.gen (cJ (oR true 5 Gs38)))
theorem yJ5:CK Lib24 Gs39:=aL yJ4 (yR6 _)
def Gs40:Gam:=Gs39.add Fn.cl (.gen (cJ (oQ true 5 Gs38)))
theorem yJ7:CK Lib24 Gs40:=aL yJ5 (ys3 _ _ rfl)
def Gs41:Gam:=Gs40.add Fn.c4 (.pure GC)
theorem yJ8:CK Lib24 Gs41:=aP yJ7 (zU7 (G0:=Gs38) rfl rfl)
def Gs42:Gam:=Gs41.add Fn.bw (.pure GM)
theorem yJ9:CK Lib24 Gs42:=aP yJ8 (yy4 (G0:=Gs38) rfl rfl) (ow:=Ow.binary_exported)
def Gs43:Gam:=Gs42.add Fn.cd (.pure GN)
theorem yK0:CK Lib24 Gs43:=aP yJ9 (yR5)
def Gs44:Gam:=Gs43.add Fn.dw (.pure GK)
theorem yK1:CK Lib24 Gs44:=aP yK0 (ys0 rfl)
def Gs45:Gam:=Gs44.add Fn.au (.gen uV)
theorem yK2:CK Lib24 Gs45:=aG yK1 (xs2 rfl rfl)
def Gs46:Gam:=Gs45.add Fn.al (.pure tC)
theorem yK3:CK Lib24 Gs46:=aP yK2 (xx2 (G0:=Gs38) rfl rfl rfl rfl rfl rfl)
def Gs47:Gam:=Gs46.add Fn.ab (.pure kX)
theorem yK4:CK Lib24 Gs47:=aP yK3 (zV5 rfl rfl rfl rfl)
def Gs48:Gam:=Gs47.add Fn.a9 (.pure uP)
theorem yK5:CK Lib24 Gs48:=aP yK4 (zV9)
def Gs49:Gam:=Gs48.add Fn.bg (.gen (cJ uT))
theorem yK6:CK Lib24 Gs49:=aL yK5 (yt0)
def Gs50:Gam:=Gs49.add Fn.c7 (.gen nT)
theorem yK8:CK Lib24 Gs50:=aG yK6 (yy7)
def Gs51:Gam:=Gs50.add Fn.b0 (.gen nT)
theorem yK9:CK Lib24 Gs51:=aG yK8 (yy6)
def Gs52:Gam:=Gs51.add Fn.ai (.gen gP)
theorem yL0:CK Lib24 Gs52:=aG yK9 (xh0 rfl rfl)
def Gs53:Gam:=Gs52.add Fn.ak (.gen gP)
theorem yL1:CK Lib24 Gs53:=aG yL0 (xg9 rfl rfl)
def Gs54:Gam:=Gs53.add Fn.a1 (.gen lW)
theorem yL2:CK Lib24 Gs54:=aG yL1 (xh2 rfl rfl rfl)
def Gs55:Gam:=Gs54.add Fn.ah (.gen lW)
theorem yL3:CK Lib24 Gs55:=aG yL2 (xh1 rfl rfl)
def Gs56:Gam:=Gs55.add Fn.ce (.gen (cJ sV))
theorem yL4:CK Lib24 Gs56:=aL yL3 (zb3)
def Gs57:Gam:=Gs56.add Fn.d6 (.gen (cJ sV))
theorem yL5:CK Lib24 Gs57:=aL yL4 (zV7)
def Gs58:Gam:=Gs57.add Fn.dq (.gen MR)
theorem yL6:CK Lib24 Gs58:=aG yL5 (yb5)
def Gs59:Gam:=Gs58.add Fn.a3 (.gen (cJ lJ))
theorem yL7:CK Lib24 Gs59:=aL yL6 (xg8)
def Gs60:Gam:=Gs59.add Fn.an (.gen oS)
theorem yL9:CK Lib24 Gs60:=aG yL7 (yt4 rfl)
def Gs61:Gam:=Gs60.add Fn.aq (.gen rI)
theorem yM0:CK Lib24 Gs61:=aG yL9 (yt5 rfl)
def Gs62:Gam:=Gs61.add Fn.cp (.gen CX)
theorem yM1:CK Lib24 Gs62:=aG yM0 (yt6 rfl rfl)
def Gs63:Gam:=Gs62.add Fn.cq (.gen CY)
theorem yM2:CK Lib24 Gs63:=aG yM1 (yt7 rfl rfl)
def Gs64:Gam:=Gs63.add Fn.cr (.gen CZ)
theorem yM3:CK Lib24 Gs64:=aG yM2 (yt8 rfl rfl)
def Gs65:Gam:=Gs64.add Fn.cs (.gen DA)
theorem yM4:CK Lib24 Gs65:=aG yM3 (yt9 rfl rfl)
def Gs66:Gam:=Gs65.add Fn.bo (.gen zK)
theorem yM5:CK Lib24 Gs66:=aZ yM4 (yX1 rfl rfl rfl)
def Gs67:Gam:=Gs66.add Fn.bs (.gen zJ)
theorem yM6:CK Lib24 Gs67:=aZ yM5 (yX0 rfl rfl rfl)
def Gs68:Gam:=Gs67.add Fn.bp (.gen zN)
theorem yM7:CK Lib24 Gs68:=aZ yM6 (yX2 rfl rfl rfl)
def Gs69:Gam:=Gs68.add Fn.bn (.gen zO)
theorem yM8:CK Lib24 Gs69:=aZ yM7 (yX3 rfl rfl rfl)
def Gs70:Gam:=Gs69.add Fn.bq (.gen zP)
theorem yN0:CK Lib24 Gs70:=aZ yM8 (yX4 rfl rfl rfl)
def Gs71:Gam:=Gs70.add Fn.bx (.pure qB)
theorem yN1:CK Lib24 Gs71:=aP yN0 (zW9 rfl rfl rfl rfl rfl rfl rfl rfl rfl rfl)
def Gs72:Gam:=Gs71.add Fn.b9 (.pure rE)
theorem yN2:CK Lib24 Gs72:=aP yN1 (yb8 rfl)
def Gs73:Gam:=Gs72.add Fn.cx (.pure rG)
theorem yN3:CK Lib24 Gs73:=aP yN2 (yd4 rfl)
def Gs74:Gam:=Gs73.add Fn.d9 (.gen (rH [95,396]))
theorem yN4:CK Lib24 Gs74:=aH yN3 fun m H=>H.copyc
def Gs75:Gam:=Gs74.add Fn.ct (.gen (uR 95 5))
theorem yN5:CK Lib24 Gs75:=aG yN4 (yd6 rfl) (ow:=Ow.__strings_Builder__WriteString)
def Gs76:Gam:=Gs75.add Fn.dv (.gen (GF 95 5))
theorem yN6:CK Lib24 Gs76:=aG yN5 (yd5 rfl) (ow:=Ow.__strings_Builder__WriteByte)
def Gs77:Gam:=Gs76.add Fn.bz (.gen (rF 5))
theorem yN7:CK Lib24 Gs77:=aG yN6 (yd1)
def Gs78:Gam:=Gs77.add Fn.dh (.gen (cJ zD))
theorem yN8:CK Lib24 Gs78:=aL yN7 (yb4)
def Gs79:Gam:=Gs78.add Fn.ao (.gen rC)
theorem yN9:CK Lib24 Gs79:=aG yN8 (zX5 rfl rfl)
def Gs80:Gam:=Gs79.add Fn.ar (.gen rD)
theorem yO1:CK Lib24 Gs80:=aG yN9 (zX6 rfl rfl)
def Gs81:Gam:=Gs80.add Fn.ag (.pure qC)
theorem yO2:CK Lib24 Gs81:=aP yO1 (zX7 rfl rfl rfl rfl rfl)
def Gs82:Gam:=Gs81.add Fn.ek (.pure (pY 5 56))
theorem yO3:CK Lib24 Gs82:=aH yO2 fun m H=>OP H.cl1
def Gs83:Gam:=Gs82.add Fn.en (.pure (pY 1 8))
theorem yO4:CK Lib24 Gs83:=aH yO3 fun m H=>OP H.cl2
def Gs84:Gam:=Gs83.add Fn.el (.pure (pY 3 40))
theorem yO5:CK Lib24 Gs84:=aH yO4 fun m H=>OP H.cl3
def Gs85:Gam:=Gs84.add Fn.ej (.pure (pY 2 24))
theorem yO6:CK Lib24 Gs85:=aH yO5 fun m H=>OP H.cl4
def Gs86:Gam:=Gs85.add Fn.eg (.gen (GD 2))
theorem yO7:CK Lib24 Gs86:=aH yO6 fun m H=>H.cl5
def Gs87:Gam:=Gs86.add Fn.dt (.gen GI)
theorem yO8:CK Lib24 Gs87:=aG yO7 (yq0 rfl rfl rfl rfl rfl) (ow:=Ow.binary_clone)
def Gs88:Gam:=Gs87.add Fn.ds (.pure sS)
theorem yO9:CK Lib24 Gs88:=aP yO8 (zU9 rfl rfl rfl rfl)
def Gs89:Gam:=Gs88.add Fn.co (.pure oT)
theorem yP0:CK Lib24 Gs89:=aH yO9 fun m H=>H.dsum
def Gs90:Gam:=Gs89.add Fn.c1 (.gen zF)
theorem yP2:CK Lib24 Gs90:=aG yP0 (zY9 rfl) (ow:=Ow.digest_Hex_1)
def Gs91:Gam:=Gs90.add Fn.bh (.pure sW)
theorem yP3:CK Lib24 Gs91:=aP yP2 (zZ1 rfl rfl) (ow:=Ow.bh)
def Gs92:Gam:=Gs91.add Fn.d4 (.pure zI)
theorem yP4:CK Lib24 Gs92:=aP yP3 (yR1 rfl rfl)
def Gs93:Gam:=Gs92.add Fn.dk (.pure qD)
theorem yP5:CK Lib24 Gs93:=aP yP4 (yc8 rfl)
def Gs94:Gam:=Gs93.add Fn.ch (.pure sU)
theorem yP6:CK Lib24 Gs94:=aP yP5 (zV0 rfl rfl rfl rfl)
def Gs95:Gam:=Gs94.add Fn.ba (.pure MT)
theorem yP7:CK Lib24 Gs95:=aP yP6 (yZ0 _)
def Gs96:Gam:=Gs95.add Fn.bv (.pure zH)
theorem yP8:CK Lib24 Gs96:=aP yP7 (yd0)
def Gs97:Gam:=Gs96.add Fn.a0 (.pure uQ)
theorem yP9:CK Lib24 Gs97:=aP yP8 (yb9 rfl rfl)
def Gs98:Gam:=Gs97.add Fn.bi (.pure mL)
theorem yQ0:CK Lib24 Gs98:=aP yP9 (yQ4)
def Gs99:Gam:=Gs98.add Fn.c8 (.pure GS)
theorem yQ1:CK Lib24 Gs99:=aP yQ0 (xj5 _)
def Gs100:Gam:=Gs99.add Fn.de (.pure GR)
theorem yB4:CK Lib24 Gs100:=aP yQ1 (xh3 _)
def Gs101:Gam:=Gs100.add Fn.a6 (.pure MV)
theorem yB5:CK Lib24 Gs101:=aP yB4 (xj1 rfl rfl)
def Gs102:Gam:=Gs101.add Fn.dy (.pure MW)
theorem yB6:CK Lib24 Gs102:=aP yB5 (xj4 rfl)
def Gs103:Gam:=Gs102.add Fn.a5 (.pure iL)
theorem yB7:CK Lib24 Gs103:=aP yB6 (xg4 rfl rfl)
def Gs104:Gam:=Gs103.add Fn.cy (.pure xC)
theorem yB8:CK Lib24 Gs104:=aP yB7 (xw9)
def Gs105:Gam:=Gs104.add Fn.dg (.pure zU)
theorem yB9:CK Lib24 Gs105:=aP yB8 (xv6)
def Gs106:Gam:=Gs105.add Fn.d5 (.pure rJ)
theorem yC0:CK Lib24 Gs106:=aP yB9 (yZ9)
def Gs107:Gam:=Gs106.add Fn.bk (.pure xA)
theorem yC1:CK Lib24 Gs107:=aP yC0 (xw7)
def Gs108:Gam:=Gs107.add Fn.bd (.pure uS)
theorem yC2:CK Lib24 Gs108:=aP yC1 (yi4)
def Gs109:Gam:=Gs108.add Fn.a4 (.pure zR)
theorem yC3:CK Lib24 Gs109:=aP yC2 (yZ1 rfl rfl)
def Gs110:Gam:=Gs109.add Fn.ae (.pure tB)
theorem yC5:CK Lib24 Gs110:=aP yC3 (xf1 rfl rfl rfl)
def Gs111:Gam:=Gs110.add Fn.aj (.pure tC)
theorem yC6:CK Lib24 Gs111:=aP yC5 (xx3 rfl rfl rfl rfl rfl)
def Gs112:Gam:=Gs111.add Fn.aa (.pure kX)
theorem yC7:CK Lib24 Gs112:=aP yC6 (zV4 rfl rfl rfl rfl rfl)
def Gs113:Gam:=Gs112.add Fn.ap (.pure (jG 1))
theorem yC8:CK Lib24 Gs113:=aP yC7 (nA 0 (by omega) (.inl rfl))
def Gs114:Gam:=Gs113.add Fn.ap (.pure (jG 2))
theorem yC9:CK Lib24 Gs114:=aP yC8 (nA 1 (by omega) (.inr rfl))
def Gs115:Gam:=Gs114.add Fn.ap (.pure (jG 3))
theorem yD0:CK Lib24 Gs115:=aP yC9 (nA 2 (by omega) (.inr rfl))
def Gs116:Gam:=Gs115.add Fn.ap (.pure (jG 4))
theorem yD1:CK Lib24 Gs116:=aP yD0 (nA 3 (by omega) (.inr rfl))
def Gs117:Gam:=Gs116.add Fn.ap (.pure (jG 5))
theorem yD2:CK Lib24 Gs117:=aP yD1 (nA 4 (by omega) (.inr rfl))
def Gs118:Gam:=Gs117.add Fn.ap (.pure (jG 6))
theorem yD3:CK Lib24 Gs118:=aP yD2 (nA 5 (by omega) (.inr rfl))
def Gs119:Gam:=Gs118.add Fn.ap (.pure (jG 7))
theorem yD4:CK Lib24 Gs119:=aP yD3 (nA 6 (by omega) (.inr rfl))
def Gs120:Gam:=Gs119.add Fn.ap (.pure (jG 8))
theorem yD6:CK Lib24 Gs120:=aP yD4 (nA 7 (by omega) (.inr rfl))
def Gs121:Gam:=Gs120.add Fn.ap (.pure (jG 9))
theorem yD7:CK Lib24 Gs121:=aP yD6 (nA 8 (by omega) (.inr rfl))
def Gs122:Gam:=Gs121.add Fn.ap (.pure (jG 10))
theorem yD8:CK Lib24 Gs122:=aP yD7 (nA 9 (by omega) (.inr rfl))
def Gs123:Gam:=Gs122.add Fn.ap (.pure (jG 11))
theorem yD9:CK Lib24 Gs123:=aP yD8 (nA 10 (by omega) (.inr rfl))
def Gs124:Gam:=Gs123.add Fn.ap (.pure (jG 12))
theorem yE0:CK Lib24 Gs124:=aP yD9 (nA 11 (by omega) (.inr rfl))
def Gs125:Gam:=Gs124.add Fn.ap (.pure (jG 13))
theorem yE1:CK Lib24 Gs125:=aP yE0 (nA 12 (by omega) (.inr rfl))
def Gs126:Gam:=Gs125.add Fn.ap (.pure (jG 14))
theorem yE2:CK Lib24 Gs126:=aP yE1 (nA 13 (by omega) (.inr rfl))
def Gs127:Gam:=Gs126.add Fn.ap (.pure (jG 15))
theorem yE3:CK Lib24 Gs127:=aP yE2 (nA 14 (by omega) (.inr rfl))
def Gs128:Gam:=Gs127.add Fn.cv (.gen CW)
theorem yE4:CK Lib24 Gs128:=aG yE3 (ys8 rfl)
def Gs129:Gam:=Gs128.add Fn.af (.pure qB)
theorem yE5:CK Lib24 Gs129:=aP yE4 (zX0 rfl rfl rfl rfl rfl) (ow:=Ow.licitref12_Decode)
def Gs130:Gam:=Gs129.add Fn.ck (.pure rE)
theorem yE7:CK Lib24 Gs130:=aP yE5 (yb7 rfl)
def Gs131:Gam:=Gs130.add Fn.c5 (.pure rG)
theorem yE8:CK Lib24 Gs131:=aP yE7 (yd3 rfl)
def Gs132:Gam:=Gs131.add Fn.a7 (.pure qF)
theorem yE9:CK Lib24 Gs132:=aP yE8 (xl2 rfl)
def Gs133:Gam:=Gs132.add Fn.az (.pure qE)
theorem yF0:CK Lib24 Gs133:=aP yE9 (xj7 rfl)
def Gs134:Gam:=Gs133.add Fn.ad (.pure qC)
theorem yF1:CK Lib24 Gs134:=aP yF0 (yc4 rfl rfl rfl)
def Gs135:Gam:=Gs134.add Fn.dz (.pure sS)
theorem yF2:CK Lib24 Gs135:=aP yF1 (zU8 rfl rfl rfl)
def Gs136:Gam:=Gs135.add Fn.c0 (.pure DD)
theorem yF3:CK Lib24 Gs136:=aP yF2 (xj8)
def Gs137:Gam:=Gs136.add Fn.c9 (.pure wZ)
theorem yF4:CK Lib24 Gs137:=aP yF3 (xb2)
def Gs138:Gam:=Gs137.add Fn.dj (.pure GJ)
theorem yF5:CK Lib24 Gs138:=aP yF4 (yr8)
def Gs139:Gam:=Gs138.add Fn.am (.pure SW)
theorem yF6:CK Lib24 Gs139:=aP yF5 (xk3 rfl rfl)
def Gs140:Gam:=Gs139.add Fn.br (.pure DC)
theorem yF8:CK Lib24 Gs140:=aP yF6 (xe3 rfl rfl)
def Gs141:Gam:=Gs140.add Fn.aw (.pure NB)
theorem yF9:CK Lib24 Gs141:=aP yF8 (xr4 rfl)
def Gs142:Gam:=Gs141.add Fn.b3 (.pure sW)
theorem yG0:CK Lib24 Gs142:=aP yF9 (zZ0)
def Gs143:Gam:=Gs142.add Fn.d2 (.pure zI)
theorem yG1:CK Lib24 Gs143:=aP yG0 (yR0 rfl rfl)
def Gs144:Gam:=Gs143.add Fn.df (.pure qD)
theorem yG2:CK Lib24 Gs144:=aP yG1 (yc7 rfl)
def Gs145:Gam:=Gs144.add Fn.cj (.pure sU)
theorem yG3:CK Lib24 Gs145:=aP yG2 (yc3 rfl rfl rfl rfl)
def Gs146:Gam:=Gs145.add Fn.bc (.pure CO)
theorem yG4:CK Lib24 Gs146:=aP yG3 (zY5)
def Gs147:Gam:=Gs146.add Fn.ci (.pure GE)
theorem yG5:CK Lib24 Gs147:=aP yG4 (zY6 rfl)
def Gs148:Gam:=Gs147.add Fn.d8 (.pure CV)
theorem yG6:CK Lib24 Gs148:=aH yG5 fun m H=>H.awake
def zY8:Gam:=Gs148.add Fn.b5 (.pure zE)
theorem yG7:CK Lib24 zY8:=aP yG6 (zV3 rfl rfl rfl rfl rfl rfl rfl rfl rfl rfl)
theorem yW2(m:GvP):Lib24 m where
 split:=(BI m).split
 itoa:=(BI m).itoa
 idx:=yS2 (fun s c w=>Tryz.strings_IndexByte s c w)
 cut:=(BI m).cut
 hp:=(BI m).hp
 clone:=(BI m).clone
 dsum:=(zj2 m (BI m)).ok Fn.co (.pure oT) (by rfl)
 copyc:=zn4 (gv1 m)
 cl1:=yn9 (gv1 m)
 cl2:=yo0 (gv1 m)
 cl3:=yo1 (gv1 m)
 cl4:=yo2 (gv1 m)
 cl5:=yo8 yp4 yq5
 awake:=yf3 m
theorem xn9(m:GvP):dW Tryz.prog (gv1 m) Fn.b5 zE:=(yG7 m (yW2 m)).ok Fn.b5 (.pure zE) (by rfl)
end
end Go.Proofs.YtdebajodkallbaaGreatDoor
