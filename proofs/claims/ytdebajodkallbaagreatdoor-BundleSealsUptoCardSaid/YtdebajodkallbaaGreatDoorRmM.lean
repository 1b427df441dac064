/- strings -/
import Derived.Test.YtdebajodkallbaaGreatDoorChecked
import Derived.Test.YtdebajodkallbaaGreatDoorRmJ
import Derived.Lib.Builder
import Derived.Lib.SliceRun
namespace Go.Proofs.YtdebajodkallbaaGreatDoor
open Go.RowKit
theorem VJ:Tryz.prog.underlying 92=some (.pointer 95):=by kernel_rfl
theorem zw4:Tryz.prog.underlying 188=some .unsafePointer:=by kernel_rfl
theorem zO1:∃j,Tryz.prog.info? 95=some j/\j.size=2:=⟨_,(by kernel_rfl:Tryz.prog.info? 95=some ((Tryz.prog.info? 95).getD default)),by kernel_rfl⟩
set_option maxHeartbeats 1000000 in set_option maxRecDepth 100000 in theorem ys6(b:Nat)(τ:TypeId)(w:World)(h0:w.cell? ⟨b,0,none⟩=some (.pointer none))(hsh:w.shape? b=some (τ,2))(hfz:w.frozen? ⟨b,0,none⟩=false)(hl:liesAt Tryz.prog Tryz.prog.depth τ (2/Tryz.prog.cellsOf τ) 0 95 1=true):Calls Tryz.prog 80 #[.pointer (some ⟨b,0,none⟩)] w fun e w'=>e=.returned (.tuple #[])/\w'=w.setCell ⟨b,0,none⟩ (.pointer (some ⟨b,0,none⟩)):=by
 obtain⟨j,hj,hjs⟩:=zO1;go_enter Tryz.func80,Tryz.ntmps80;go_wp2;rw[Lib.run_to_unsafe w ⟨b,0,none⟩ VJ zw4 hj (by rw[hjs];decide) hsh (Nat.zero_lt_succ 1)];simp only[Result.andThen];rw[Oper.upon_value];go_wp2;rw[run_callFunc_extern Tryz.func135 (by kernel_rfl) (by kernel_rfl) (by kernel_rfl) (e:=Extern.AbiNoEscape.same) (by kernel_rfl)];rw[Lib.run_noEscape];simp only[Result.andThen];rw[Oper.upon_value];go_wp2;rw[Lib.run_from_unsafe w ⟨b,0,none⟩ zw4 VJ hj hsh hl];simp only[Result.andThen];rw[Oper.upon_value];go_wp2;go_end0;exact⟨rfl,rfl⟩
set_option maxHeartbeats 1000000 in set_option maxRecDepth 100000 in theorem ys7(b:Nat)(w:World)(h0:w.cell? ⟨b,0,none⟩=some (.pointer (some ⟨b,0,none⟩))):Calls Tryz.prog 80 #[.pointer (some ⟨b,0,none⟩)] w fun e w'=>e=.returned (.tuple #[])/\w'=w:=by
 obtain⟨j,hj,hjs⟩:=zO1;go_enter Tryz.func80,Tryz.ntmps80;go_wp2;rw[Lib.run_neq_ptr_same w _ VJ hj];go_wp2;go_end0;exact⟨rfl,rfl⟩
theorem yW4:liesAt Tryz.prog Tryz.prog.depth 95 (2/Tryz.prog.cellsOf 95) 0 95 1=true:=by kernel_rfl
theorem yW3:liesAt Tryz.prog Tryz.prog.depth 396 (2/Tryz.prog.cellsOf 396) 0 95 1=true:=by kernel_rfl
theorem zn4(d:Gv):fA Tryz.prog d 80 (rH [95,396]):=ys5 (fun T c b w a f e=>ys6 b T w a f e (by
 rcases fE.1 c with rfl|c;·exact yW4
 ·rw[mN.1 c];exact yW3)) (fun b w a=>ys7 b w a)
section
open Go.Lib
theorem jP:Tryz.prog.follows .mixedOrders=true:=by kernel_rfl
theorem VC:Tryz.prog.underlying 306=some (.slice 377):=by kernel_rfl
theorem yS8:∃(a:TypeInfo)(z:Value),Tryz.prog.info? 377=some a/\a.zero=some z/\a.size=3/\a.bytes=32/\z.cells.size=3:=⟨(Tryz.prog.info? 377).getD default,(((Tryz.prog.info? 377).getD default).zero).getD (.bool false),by kernel_rfl,by kernel_rfl,by kernel_rfl,by kernel_rfl,by kernel_rfl⟩
theorem zl5(w:World)(a:Option Addr)(n c d b:Nat):(binOp .eql 306 (.slice a n c) (.slice none d b)).run Tryz.prog w=.ok (.bool a.isNone) w:=Lib.run_eql_slice_nil w _ _ a n c d b VC
set_option maxHeartbeats 2000000 in set_option maxRecDepth 100000 in theorem yp7(a:Addr)(n c:Nat)(news:List Value)(w:World)(hl:news.length=n*3)(hn:n<=maxLen)(hbig:n*32<=140737488355328)(hc:∀j u,news[j]?=some u->w.cell? (a.add j)=some u)(h1:∀u∈news,u.oneCell'=true):Calls Tryz.prog 521 #[.slice (some a) n c] w fun o w'=>(∃v',o=.returned v'/\w'.ownsRow w.heap.size 377 3 v' n news)/\Below w.heap.size w w':=by
 obtain⟨i0,z,hi,hz0,hz1,hz2,hzs⟩:=yS8;have mixed:=jP;have q:=zl5;have u:∀w,Sem.run Tryz.prog (underlying 306) w=.ok (TypeDesc.slice 377) w:=run_underlying VC;have A:Aside (∀j u,news[j]?=some u->w.cell? (a.add j)=some u):=hc;clear hc;go_enter Tryz.func521,Tryz.ntmps521;go_wp2_with(at_builtin;refine wpList_append_own _ rfl _ _ 306 rfl w.heap.size 377 i0 z 3 32 VC hi hz0 hz1 hz2 hzs (by decide) _ _ _ rfl (World.ownsRow_made w #[] 0 (dA _) (nZ _) (by simp)) a n c news rfl ?q1 ?q2 ?q3 ?q4 ?q5 ?q6 ?_);case q1=>exact hl
 case q2=>intro j u hj;exact Lib.cell?_alloc_some _ (A.out j u hj)
 case q3=>exact h1
 case q4=>rw[eR];exact hn
 case q5=>rw[eR];exact hbig
 case q6=>simp
 intro v' w1 hown hgrow hnil;go_wp2;go_ret;refine⟨⟨v',rfl,by simpa using hown⟩,?_⟩;exact((Below.refl _ w).alloc (dA _) _).grown hgrow (by simp) (by intro k hk;simp[Value.ownBlock]at hk;omega)
set_option maxHeartbeats 2000000 in set_option maxRecDepth 100000 in theorem yq8(n c:Nat)(w:World):Calls Tryz.prog 521 #[.slice none n c] w fun o w'=>o=.returned (.slice none 0 0)/\w'=w:=by
 have mixed:=jP;have q:=zl5;go_enter Tryz.func521,Tryz.ntmps521;go_wp2;go_ret;exact⟨rfl,rfl⟩
theorem yo5(a:Gv):fA Tryz.prog a 521 (jF 3 32):=vL yp7 yq8
theorem VB:Tryz.prog.underlying 23=some (.slice 57):=by kernel_rfl
theorem yT0:∃(a:TypeInfo)(z:Value),Tryz.prog.info? 57=some a/\a.zero=some z/\a.size=2/\a.bytes=32/\z.cells.size=2:=⟨(Tryz.prog.info? 57).getD default,(((Tryz.prog.info? 57).getD default).zero).getD (.bool false),by kernel_rfl,by kernel_rfl,by kernel_rfl,by kernel_rfl,by kernel_rfl⟩
theorem zl4(w:World)(a:Option Addr)(n c d b:Nat):(binOp .eql 23 (.slice a n c) (.slice none d b)).run Tryz.prog w=.ok (.bool a.isNone) w:=Lib.run_eql_slice_nil w _ _ a n c d b VB
set_option maxHeartbeats 2000000 in set_option maxRecDepth 100000 in theorem yp9(a:Addr)(n c:Nat)(news:List Value)(w:World)(hl:news.length=n*2)(hn:n<=maxLen)(hbig:n*32<=140737488355328)(hc:∀j u,news[j]?=some u->w.cell? (a.add j)=some u)(h1:∀u∈news,u.oneCell'=true):Calls Tryz.prog 90 #[.slice (some a) n c] w fun o w'=>(∃v',o=.returned v'/\w'.ownsRow w.heap.size 57 2 v' n news)/\Below w.heap.size w w':=by
 obtain⟨i0,z,hi,hz0,hz1,hz2,hzs⟩:=yT0;have mixed:=jP;have q:=zl4;have u:∀w,Sem.run Tryz.prog (underlying 23) w=.ok (TypeDesc.slice 57) w:=run_underlying VB;have A:Aside (∀j u,news[j]?=some u->w.cell? (a.add j)=some u):=hc;clear hc;go_enter Tryz.func90,Tryz.ntmps90;go_wp2_with(at_builtin;refine wpList_append_own _ rfl _ _ 23 rfl w.heap.size 57 i0 z 2 32 VB hi hz0 hz1 hz2 hzs (by decide) _ _ _ rfl (World.ownsRow_made w #[] 0 (dA _) (nZ _) (by simp)) a n c news rfl ?q1 ?q2 ?q3 ?q4 ?q5 ?q6 ?_);case q1=>exact hl
 case q2=>intro j u hj;exact Lib.cell?_alloc_some _ (A.out j u hj)
 case q3=>exact h1
 case q4=>rw[eR];exact hn
 case q5=>rw[eR];exact hbig
 case q6=>simp
 intro v' w1 hown hgrow hnil;go_wp2;go_ret;refine⟨⟨v',rfl,by simpa using hown⟩,?_⟩;exact((Below.refl _ w).alloc (dA _) _).grown hgrow (by simp) (by intro k hk;simp[Value.ownBlock]at hk;omega)
set_option maxHeartbeats 2000000 in set_option maxRecDepth 100000 in theorem yr0(n c:Nat)(w:World):Calls Tryz.prog 90 #[.slice none n c] w fun o w'=>o=.returned (.slice none 0 0)/\w'=w:=by
 have mixed:=jP;have q:=zl4;go_enter Tryz.func90,Tryz.ntmps90;go_wp2;go_ret;exact⟨rfl,rfl⟩
theorem yo7(a:Gv):fA Tryz.prog a 90 (jF 2 32):=vL yp9 yr0
theorem VI:Tryz.prog.underlying 46=some (.slice 55):=by kernel_rfl
theorem yS9:∃(a:TypeInfo)(z:Value),Tryz.prog.info? 55=some a/\a.zero=some z/\a.size=4/\a.bytes=72/\z.cells.size=4:=⟨(Tryz.prog.info? 55).getD default,(((Tryz.prog.info? 55).getD default).zero).getD (.bool false),by kernel_rfl,by kernel_rfl,by kernel_rfl,by kernel_rfl,by kernel_rfl⟩
theorem zm1(w:World)(a:Option Addr)(n c d b:Nat):(binOp .eql 46 (.slice a n c) (.slice none d b)).run Tryz.prog w=.ok (.bool a.isNone) w:=Lib.run_eql_slice_nil w _ _ a n c d b VI
set_option maxHeartbeats 2000000 in set_option maxRecDepth 100000 in theorem yp8(a:Addr)(n c:Nat)(news:List Value)(w:World)(hl:news.length=n*4)(hn:n<=maxLen)(hbig:n*72<=140737488355328)(hc:∀j u,news[j]?=some u->w.cell? (a.add j)=some u)(h1:∀u∈news,u.oneCell'=true):Calls Tryz.prog 88 #[.slice (some a) n c] w fun o w'=>(∃v',o=.returned v'/\w'.ownsRow w.heap.size 55 4 v' n news)/\Below w.heap.size w w':=by
 obtain⟨i0,z,hi,hz0,hz1,hz2,hzs⟩:=yS9;have mixed:=jP;have q:=zm1;have u:∀w,Sem.run Tryz.prog (underlying 46) w=.ok (TypeDesc.slice 55) w:=run_underlying VI;have A:Aside (∀j u,news[j]?=some u->w.cell? (a.add j)=some u):=hc;clear hc;go_enter Tryz.func88,Tryz.ntmps88;go_wp2_with(at_builtin;refine wpList_append_own _ rfl _ _ 46 rfl w.heap.size 55 i0 z 4 72 VI hi hz0 hz1 hz2 hzs (by decide) _ _ _ rfl (World.ownsRow_made w #[] 0 (dA _) (nZ _) (by simp)) a n c news rfl ?q1 ?q2 ?q3 ?q4 ?q5 ?q6 ?_);case q1=>exact hl
 case q2=>intro j u hj;exact Lib.cell?_alloc_some _ (A.out j u hj)
 case q3=>exact h1
 case q4=>rw[eR];exact hn
 case q5=>rw[eR];exact hbig
 case q6=>simp
 intro v' w1 hown hgrow hnil;go_wp2;go_ret;refine⟨⟨v',rfl,by simpa using hown⟩,?_⟩;exact((Below.refl _ w).alloc (dA _) _).grown hgrow (by simp) (by intro k hk;simp[Value.ownBlock]at hk;omega)
set_option maxHeartbeats 2000000 in set_option maxRecDepth 100000 in theorem yq9(n c:Nat)(w:World):Calls Tryz.prog 88 #[.slice none n c] w fun o w'=>o=.returned (.slice none 0 0)/\w'=w:=by
 have mixed:=jP;have q:=zm1;go_enter Tryz.func88,Tryz.ntmps88;go_wp2;go_ret;exact⟨rfl,rfl⟩
theorem yo6(a:Gv):fA Tryz.prog a 88 (jF 4 72):=vL yp8 yq9
theorem VA:Tryz.prog.underlying 139=some (.slice 141):=by kernel_rfl
theorem yS6:∃(a:TypeInfo)(z:Value),Tryz.prog.info? 141=some a/\a.zero=some z/\a.size=2/\a.bytes=32/\z.cells.size=2:=⟨(Tryz.prog.info? 141).getD default,(((Tryz.prog.info? 141).getD default).zero).getD (.bool false),by kernel_rfl,by kernel_rfl,by kernel_rfl,by kernel_rfl,by kernel_rfl⟩
theorem zl3(w:World)(a:Option Addr)(n c d b:Nat):(binOp .eql 139 (.slice a n c) (.slice none d b)).run Tryz.prog w=.ok (.bool a.isNone) w:=Lib.run_eql_slice_nil w _ _ a n c d b VA
set_option maxHeartbeats 2000000 in set_option maxRecDepth 100000 in theorem yp6(a:Addr)(n c:Nat)(news:List Value)(w:World)(hl:news.length=n*2)(hn:n<=maxLen)(hbig:n*32<=140737488355328)(hc:∀j u,news[j]?=some u->w.cell? (a.add j)=some u)(h1:∀u∈news,u.oneCell'=true):Calls Tryz.prog 193 #[.slice (some a) n c] w fun o w'=>(∃v',o=.returned v'/\w'.ownsRow w.heap.size 141 2 v' n news)/\Below w.heap.size w w':=by
 obtain⟨i0,z,hi,hz0,hz1,hz2,hzs⟩:=yS6;have mixed:=jP;have q:=zl3;have u:∀w,Sem.run Tryz.prog (underlying 139) w=.ok (TypeDesc.slice 141) w:=run_underlying VA;have A:Aside (∀j u,news[j]?=some u->w.cell? (a.add j)=some u):=hc;clear hc;go_enter Tryz.func193,Tryz.ntmps193;go_wp2_with(at_builtin;refine wpList_append_own _ rfl _ _ 139 rfl w.heap.size 141 i0 z 2 32 VA hi hz0 hz1 hz2 hzs (by decide) _ _ _ rfl (World.ownsRow_made w #[] 0 (dA _) (nZ _) (by simp)) a n c news rfl ?q1 ?q2 ?q3 ?q4 ?q5 ?q6 ?_);case q1=>exact hl
 case q2=>intro j u hj;exact Lib.cell?_alloc_some _ (A.out j u hj)
 case q3=>exact h1
 case q4=>rw[eR];exact hn
 case q5=>rw[eR];exact hbig
 case q6=>simp
 intro v' w1 hown hgrow hnil;go_wp2;go_ret;refine⟨⟨v',rfl,by simpa using hown⟩,?_⟩;exact((Below.refl _ w).alloc (dA _) _).grown hgrow (by simp) (by intro k hk;simp[Value.ownBlock]at hk;omega)
set_option maxHeartbeats 2000000 in set_option maxRecDepth 100000 in theorem yq7(n c:Nat)(w:World):Calls Tryz.prog 193 #[.slice none n c] w fun o w'=>o=.returned (.slice none 0 0)/\w'=w:=by
 have mixed:=jP;have q:=zl3;go_enter Tryz.func193,Tryz.ntmps193;go_wp2;go_ret;exact⟨rfl,rfl⟩
theorem yo4(a:Gv):fA Tryz.prog a 193 (jF 2 32):=vL yp6 yq7
theorem UZ:Tryz.prog.underlying 102=some (.slice 9):=by kernel_rfl
theorem yT5:∃(a:TypeInfo)(z:Value),Tryz.prog.info? 9=some a/\a.zero=some z/\a.size=1/\a.bytes=16/\z.cells.size=1:=⟨(Tryz.prog.info? 9).getD default,(((Tryz.prog.info? 9).getD default).zero).getD (.bool false),by kernel_rfl,by kernel_rfl,by kernel_rfl,by kernel_rfl,by kernel_rfl⟩
theorem zl2(w:World)(a:Option Addr)(n c d b:Nat):(binOp .eql 102 (.slice a n c) (.slice none d b)).run Tryz.prog w=.ok (.bool a.isNone) w:=Lib.run_eql_slice_nil w _ _ a n c d b UZ
set_option maxHeartbeats 2000000 in set_option maxRecDepth 100000 in theorem yp5(a:Addr)(n c:Nat)(news:List Value)(w:World)(hl:news.length=n*1)(hn:n<=maxLen)(hbig:n*16<=140737488355328)(hc:∀j u,news[j]?=some u->w.cell? (a.add j)=some u)(h1:∀u∈news,u.oneCell'=true):Calls Tryz.prog 191 #[.slice (some a) n c] w fun o w'=>(∃v',o=.returned v'/\w'.ownsRow w.heap.size 9 1 v' n news)/\Below w.heap.size w w':=by
 obtain⟨i0,z,hi,hz0,hz1,hz2,hzs⟩:=yT5;have mixed:=jP;have q:=zl2;have u:∀w,Sem.run Tryz.prog (underlying 102) w=.ok (TypeDesc.slice 9) w:=run_underlying UZ;have A:Aside (∀j u,news[j]?=some u->w.cell? (a.add j)=some u):=hc;clear hc;go_enter Tryz.func191,Tryz.ntmps191;go_wp2_with(at_builtin;refine wpList_append_own _ rfl _ _ 102 rfl w.heap.size 9 i0 z 1 16 UZ hi hz0 hz1 hz2 hzs (by decide) _ _ _ rfl (World.ownsRow_made w #[] 0 (dA _) (nZ _) (by simp)) a n c news rfl ?q1 ?q2 ?q3 ?q4 ?q5 ?q6 ?_);case q1=>exact hl
 case q2=>intro j u hj;exact Lib.cell?_alloc_some _ (A.out j u hj)
 case q3=>exact h1
 case q4=>rw[eR];exact hn
 case q5=>rw[eR];exact hbig
 case q6=>simp
 intro v' w1 hown hgrow hnil;go_wp2;go_ret;refine⟨⟨v',rfl,by simpa using hown⟩,?_⟩;exact((Below.refl _ w).alloc (dA _) _).grown hgrow (by simp) (by intro k hk;simp[Value.ownBlock]at hk;omega)
set_option maxHeartbeats 2000000 in set_option maxRecDepth 100000 in theorem yq6(n c:Nat)(w:World):Calls Tryz.prog 191 #[.slice none n c] w fun o w'=>o=.returned (.slice none 0 0)/\w'=w:=by
 have mixed:=jP;have q:=zl2;go_enter Tryz.func191,Tryz.ntmps191;go_wp2;go_ret;exact⟨rfl,rfl⟩
theorem yo3(a:Gv):fA Tryz.prog a 191 (jF 1 16):=vL yp5 yq6
end
section
open Go.Lib
theorem yS0:Tryz.prog.underlying 23=some (.slice 57):=by kernel_rfl
theorem xy5:∀w,(zeroValue 57).run Tryz.prog w=.ok (.agg #[.string ⟨#[]⟩,.string ⟨#[]⟩]) w:=by
 intro w;have b:∃a,Tryz.prog.info? 57=some a/\a.zero=some (.agg #[.string ⟨#[]⟩,.string ⟨#[]⟩]):=⟨(Tryz.prog.info? 57).getD default,by kernel_rfl,by kernel_rfl⟩;obtain⟨a,c,d⟩:=b;simp[zeroValue,typeInfo,c,d]
set_option maxHeartbeats 2000000 in set_option maxRecDepth 100000 in theorem yv7(blk cap:Nat)(fv:Value)(w:World)(R S:World->Prop)(hcap:3<=cap)(hidx:Calls Tryz.prog 142 #[.slice (some ⟨blk,0,none⟩) 3 cap,fv] w fun e w'=>e=.returned (.int .i64 2)/\R w')(hst:∀w',R w'->∃w2,(∀ty,(Builtin.clear_ #[23] ty #[.slice (some ⟨blk,4,none⟩) 1 (cap-2)]).run Tryz.prog w'=.ok (.tuple #[]) w2)/\S w2):Calls Tryz.prog 89 #[.slice (some ⟨blk,0,none⟩) 3 cap,fv] w fun e w'=>e=.returned (.slice (some ⟨blk,0,none⟩) 2 cap)/\S w':=by
 have mixed:=jP;have HS:Aside (∀w',R w'->∃w2,(∀ty,(Builtin.clear_ #[23] ty #[.slice (some ⟨blk,4,none⟩) 1 (cap-2)]).run Tryz.prog w'=.ok (.tuple #[]) w2)/\S w2):=hst;clear hst;go_enter Tryz.func89,Tryz.ntmps89;go_wp2_with(go_at_call 142;refine hidx.mono ?_;rintro e w'⟨rfl,hR⟩;obtain⟨w2,hcl,hS⟩:=HS.out w' hR);refine wp_loop_rounds 1 ?_;rw[rounds_succ];go_wp2;go_ret;exact⟨rfl,hS⟩
theorem yv6{a:Gv}{G:Gam}(b:GamOK Tryz.prog a G):fA Tryz.prog a 89 (MO G 142):=yv8 b yS0 (by kernel_rfl) xy5 yv7
end
end Go.Proofs.YtdebajodkallbaaGreatDoor
