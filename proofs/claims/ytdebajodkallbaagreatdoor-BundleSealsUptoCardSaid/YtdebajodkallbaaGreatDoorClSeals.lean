/- 'licitlaw46.BundleSeals' returns true for all inputs and leaves its arguments as they were: where they are together of bulk at most 1048576 (the second form); the tables and the two errors of the libr -/
import Derived.Test.YtdebajodkallbaaGreatDoorRow24
import Derived.Test.YtdebajodkallbaaGreatDoorCards
import Derived.Test.YtdebajodkallbaaGreatDoorTieA
import Derived.Test.YtdebajodkallbaaGreatDoorFcSeals
import Derived.ProofKit
import Derived.OpenShut
import Derived.Deep.DeepHandedRow
namespace Go.Proofs.YtdebajodkallbaaGreatDoor
section
namespace seals
open Go.ChangeShapes Go.WideShapes Go.ChangeAt Go.RowKit
theorem own:ownKnob Tryz.prog.godebug=none:=by kernel_rfl
theorem laidOut:laidOutB Tryz.prog=true:=k1
theorem u4:Tryz.prog.underlying 4=some .bool:=by kernel_rfl
theorem pure_at(m:GvP):dW Tryz.prog (gv1 m) 3 zE:=xn9 m
set_option maxRecDepth 100000 in theorem contract(H:Type)(b:TypeId×Value->H)(W:World)(I:Nat)(a:Array Value)(f w:List (DataW H))(before:List MemPlace)(o:∀(j:Nat)t v,Tryz.f3.params[j]?=some t->a[j]?=some v->Value.okWide Tryz.prog W .any I t v)(z:DataW.Whole b Tryz.prog Tryz.f3.params.toList Rows.bundleSealsSpec.vars false W a.toList f w before)(Z:Rows.uptoSmall H (f++w)=true)(T:W.ShapedOpen Tryz.prog)(S:laidMetH Tryz.prog QG W):Calls Tryz.prog 3 a W fun e q=>∃v,e=.returned v/\Rows.bundleSealsSpec.post b Tryz.prog Tryz.f3 false true false false W a v q:=by
 have g:=z;obtain⟨b3,f3,Q,U,rfl,d3,e2⟩:=z;have y:DataW.TrodAll b Tryz.prog W 0 (fun _=>true) true Tryz.f3.params.toList a.toList f b3:=Q;rw[Tryz.params3]at y o;obtain⟨E,g1,J,c1,p0,q0,d2,rfl,rfl,M,r0⟩:=trodAll_cons y;obtain⟨F,d,K,c2,p1,q1,rfl,rfl,rfl,O,r1⟩:=trodAll_cons r0;obtain⟨rfl,rfl,rfl⟩:=trodAll_nil r1;obtain rfl:a=#[E,F]:=by cases a;simp_all
 obtain⟨rfl,rfl⟩:=trodVars_none U;obtain⟨b2,hm⟩:=yV2 T S;have X:=bulks.bound Z;obtain⟨s,l⟩:=M;obtain⟨u,m⟩:=O;simp only[List.append_nil,Rows.uptoBulkAll]at X;obtain⟨D,rfl⟩:=okWide_string u9 (o 0 9 E rfl rfl);obtain⟨c3,a2⟩:∃L,Tryz.prog.underlying 25=some (.struct L):=by obtain⟨f0,f1,f2,hu,_⟩:=zN1;exact⟨_,hu⟩
 obtain⟨d,rfl,e3⟩:=okWide_struct a2 (o 1 25 F rfl rfl);obtain⟨G,A,e1⟩:=xa9 l (by simp only;omega);obtain⟨r,B,a1⟩:=xa7 m (by simp only;omega);simp only at B;have n:=(SJ 8 25 u _ _ yz4 m).1;rw[B]at n;have V:Rel (Cx.pure (mR W)) (iB r) (.agg d):=.agg _ _ (by have h:=n.1;simp at h⊢;exact h) (fun a3 c v k hv=>n.2 a3 c v k (by have h:=hv;simp at h⊢;exact h));have C:=(SJ 8 9 s _ _ fl9 l).1.append ((RelL.cons V .nil));simp only at A;rw[A]at C;have k:=yn3 (pure_at b2) hm (args:=#[.string D,.agg d]) (avs:=[.str G,iB r]) C (by simp only[zE,IW];exact if_pos a1);refine k.mono fun e q⟨Y,i⟩=>?_;subst Y;have N:DataW.Trod b Tryz.prog W 0 (fun _=>true) true 9 (.string D) J p0:=⟨s,l⟩;have P:DataW.Trod b Tryz.prog W 0 (fun _=>true) true 25 (.agg d) K p1:=⟨u,m⟩;exact⟨_,rfl,_,_,_,[],_,[],g,trodAll_mk1 (shut_bool u4 _),trodAll_cons_mk (Below.trod laidOut (by kernel_rfl) (of_decide_eq_true (by kernel_rfl)) N i (fun x p=>g.lt x (by simp[p]))) (trodAll_cons_mk (Below.trod laidOut (by kernel_rfl) (of_decide_eq_true (by kernel_rfl)) P i (fun x p=>g.lt x (by simp[p]))) trodAll_mk0),rfl,i.frame _,fun h=>by cases h⟩
def putC(a:Array Value):Obj->Obj
 |.cells _ t frozen=>.cells a t frozen|o=>o
mutual def litsV:DataW Unit->List Value
 |.lit (.int k n)=>[.int k n]|.agg a=>litsVL a|_=>[]def litsVL:List (DataW Unit)->List Value
 |[]=>[]|d::a=>litsV d++litsVL a end
noncomputable def laidWorld(a:Os):World:=let h:=(World.holding Tryz.prog a ⟨#[],#[],[]⟩).heap
 {World.holding Tryz.prog a ⟨#[],#[],[]⟩with heap:=(((((((((h.modify 2 (putC (litsV Rows.laid_unicode_utf8_first).toArray)).modify 3 (putC (litsV Rows.laid_unicode_utf8_acceptRanges).toArray)).modify 1 (putC (litsV Rows.laid_internal_strconv_uint64pow10).toArray)).modify 4 (putC (litsV Rows.laid_math_bits_deBruijn32tab).toArray)).modify 5 (putC (litsV Rows.laid_math_bits_deBruijn64tab).toArray)).modify 6 (putC #[.iface 630 (.pointer (some ⟨h.size,0,none⟩))])).modify 7 (putC #[.iface 630 (.pointer (some ⟨h.size+1,0,none⟩))])).push (.cells #[.string ⟨#[105,110,118,97,108,105,100,32,115,121,110,116,97,120]⟩] 632 (0,0))).push (.cells #[.string ⟨#[118,97,108,117,101,32,111,117,116,32,111,102,32,114,97,110,103,101]⟩] 632 (0,0)))}
theorem laid_met(a:Os):laidMet Tryz.prog Rows.bundleSealsUptoRow.laid ((laidWorld a).forCall (fun _ _=>0) ⟨#[],#[Value.string .empty,Value.agg #[.string .empty,.slice none 0 0,.slice none 0 0]],[]⟩).memory:=laidMet_of_run' 8 (by kernel_rfl) (by kernel_rfl)
theorem reads(b:Os){H:Type}(a:TypeId×Value->H):∃c,DataW.whole a Tryz.prog ((laidWorld b).forCall (fun _ _=>0) ⟨#[],#[Value.string .empty,Value.agg #[.string .empty,.slice none 0 0,.slice none 0 0]],[]⟩).memory Tryz.f3.params.toList Rows.bundleSealsSpec.vars false #[Value.string .empty,Value.agg #[.string .empty,.slice none 0 0,.slice none 0 0]].toList 8=some ([.lit (.string []),.agg [.lit (.string []),.nil,.nil]],[],c):=⟨[],by kernel_rfl⟩
set_option maxRecDepth 100000 in theorem liftedUpto(b:Os)(o:b.Started)(H:Type)(a:TypeId×Value->H)(F:Stop.Interp):ReturnsInHanded {} Tryz.checked b 3 .any ((Rows.OpenSpec.upto Rows.bundleSealsSpec).preRow a Tryz.prog Tryz.f3 Rows.bundleSealsUptoRow.domain false Rows.bundleSealsUptoRow.laid) (((Rows.OpenSpec.upto Rows.bundleSealsSpec).at F).post a Tryz.prog Tryz.f3 false true false false):=by
 obtain⟨p,n⟩:=reads b a;refine returnsInHanded_of_row (C:=Tryz.checked) (s:=Rows.OpenSpec.upto Rows.bundleSealsSpec) own o (by kernel_rfl) Tryz.func3 (witness_row_at (enc:=a) (C:=Tryz.checked) false (laidWorld b) #[Value.string .empty,Value.agg #[.string .empty,.slice none 0 0,.slice none 0 0]] rfl (by kernel_rfl) (by kernel_rfl) (by kernel_rfl) (OpenSpec.preRow_of_cond 8 n (by kernel_rfl) (fun k l=>by cases l;kernel_rfl) (by kernel_rfl) (laid_met b))) ?_;intro W d c e f before m i _ j _ g h _;exact contract H a W d c e f before m i (j _ rfl) h g
theorem saidUpto:Rows.BundleSealsUptoSaid:=OpenClaim.holds_of_cond 3 Tryz.f3 rfl rfl rfl rfl rfl rfl rfl ⟨rfl,rfl,rfl,rfl,rfl⟩ rfl rfl rfl rfl rfl yY9 Tryz.func3 closed (of_decide_eq_true (by kernel_rfl)) (by unfold Func.isWrapper;first|(rw[if_pos (by decide+kernel)];kernel_rfl)|(rw[if_neg (by decide+kernel)];exact⟨rfl,rfl⟩)) (fun b c H a _ F=>by rw[OpenClaim.pre_eq_preRow];exact liftedUpto b c H a F)
set_option maxRecDepth 100000 in theorem plain(f:FuncId)(a:Func)(c:Tryz.pinned.checked.prog.funcNamed Tryz.f3.name=some f)(d:Tryz.pinned.checked.prog.funcs[f]?=some a):true=Tryz.pinned.checked.prog.looks []/\∀(j:Nat)t,a.params[j]?=some t->Tryz.pinned.checked.prog.wantsStandIn t=false:=by
 obtain rfl:f=3:=Option.some.inj ((show Tryz.prog.funcNamed Tryz.f3.name=some 3 by kernel_rfl).symm.trans c)|>.symm;obtain rfl:a=Tryz.f3:=(Option.some.inj (Tryz.func3.symm.trans d)).symm;refine⟨by kernel_rfl,fun j t b=>?_⟩;rw[Tryz.params3]at b;have e:t=9\/t=25:=by have:=Array.mem_of_getElem? b;simp at this;omega
 rcases e with rfl|rfl;·exact(show Tryz.prog.wantsStandIn 9=false by kernel_rfl)
 ·exact(show Tryz.prog.wantsStandIn 25=false by kernel_rfl)
end seals
theorem bundleSeals_holds:Rows.BundleSealsUptoCardSaid:=Claim7.holds_tied_plain_at .later [] _ _ _ _ seals.saidUpto (fun _ h=>by cases h) seals.wfT (fun _ h=>by cases h) ym9 rfl ⟨rfl,rfl⟩ seals.mainT rfl seals.plain seals.goesT
end
end Go.Proofs.YtdebajodkallbaaGreatDoor
