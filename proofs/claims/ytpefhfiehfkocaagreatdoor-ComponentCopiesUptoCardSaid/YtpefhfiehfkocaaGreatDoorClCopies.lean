/- 'licitlaw38.ComponentCopies' returns true for all inputs and leaves its arguments as they were: where they are together of bulk at most 1048576 (the second form); the tables and the two errors of the library hold what the program's text lays. -/
import Derived.Test.YtpefhfiehfkocaaGreatDoorRow44
import Derived.Test.YtpefhfiehfkocaaGreatDoorCards
import Derived.Test.YtpefhfiehfkocaaGreatDoorTieA
import Derived.Test.YtpefhfiehfkocaaGreatDoorFcCopies
import Derived.ProofKit
import Derived.OpenShut
import Derived.Deep.DeepHandedRow
namespace Go.Proofs.YtpefhfiehfkocaaGreatDoor
section
namespace copies
open Go.ChangeShapes Go.WideShapes Go.ChangeAt Go.RowKit
theorem own:ownKnob Tryz.prog.godebug=none:=by kernel_rfl
theorem laidOut:laidOutB Tryz.prog=true:=k1
theorem u4:Tryz.prog.underlying 4=some .bool:=by kernel_rfl
theorem pure_at(m:GvP):dP Tryz.prog (gv1 m) 4 VE:=yz7 m
set_option maxRecDepth 100000 in theorem contract(H:Type)(b:TypeId×Value->H)(W:World)(A:Nat)(a:Array Value)(c i:List (DataW H))(before:List MemPlace)(u:∀(j:Nat)t v,Tryz.f4.params[j]?=some t->a[j]?=some v->Value.okWide Tryz.prog W .any A t v)(l:DataW.Whole b Tryz.prog Tryz.f4.params.toList Rows.componentCopiesSpec.vars false W a.toList c i before)(M:Rows.uptoSmall H (c++i)=true)(G:W.ShapedOpen Tryz.prog)(F:laidMetH Tryz.prog QY W):Calls Tryz.prog 4 a W fun e f=>∃v,e=.returned v/\Rows.componentCopiesSpec.post b Tryz.prog Tryz.f4 false true false false W a v f:=by
 have n:=l;obtain⟨p,q,E,I,rfl,U,X⟩:=l;have k:DataW.TrodAll b Tryz.prog W 0 (fun _=>true) true Tryz.f4.params.toList a.toList c p:=E;rw[Tryz.params4]at k u;obtain⟨y,vs0,B,S,P,Y,T,rfl,rfl,C,Q⟩:=trodAll_cons k;obtain⟨rfl,rfl,rfl⟩:=trodAll_nil Q;obtain rfl:a=#[y]:=by cases a;simp_all
 obtain⟨rfl,rfl⟩:=trodVars_none I;obtain⟨m,N⟩:=yW8 G F;have J:=bulks.bound M;obtain⟨g,d⟩:=C;simp only[List.append_nil,Rows.uptoBulkAll]at J;obtain⟨w,rfl⟩:=okWide_string u9 (u 0 9 y rfl rfl);obtain⟨z,o,V⟩:=xd5 d (by simp only;omega);have s:=(zg2 8 9 g _ _ fl9 d).1;simp only at o;rw[o]at s;have K:=yu8 (pure_at m) N (args:=#[.string w]) (avs:=[.str z]) s (rfl);refine K.mono fun e f⟨L,r⟩=>?_;subst L;have D:DataW.Trod b Tryz.prog W 0 (fun _=>true) true 9 (.string w) B P:=⟨g,d⟩;exact⟨_,rfl,_,_,_,[],_,[],n,trodAll_mk1 (shut_bool u4 _),trodAll_cons_mk (Below.trod laidOut (by kernel_rfl) (of_decide_eq_true (by kernel_rfl)) D r (fun x O=>n.lt x (by simp[O]))) trodAll_mk0,rfl,r.frame _,fun h=>by cases h⟩
def putC(a:Array Value):Obj->Obj
 |.cells _ t frozen=>.cells a t frozen|o=>o
mutual def litsV:DataW Unit->List Value
 |.lit (.int k n)=>[.int k n]|.agg a=>litsVL a|_=>[]def litsVL:List (DataW Unit)->List Value
 |[]=>[]|d::a=>litsV d++litsVL a end
noncomputable def laidWorld(a:Os):World:=let h:=(World.holding Tryz.prog a ⟨#[],#[],[]⟩).heap
 {World.holding Tryz.prog a ⟨#[],#[],[]⟩with heap:=(((((((((h.modify 1 (putC (litsV Rows.laid_unicode_utf8_first).toArray)).modify 2 (putC (litsV Rows.laid_unicode_utf8_acceptRanges).toArray)).modify 5 (putC (litsV Rows.laid_internal_strconv_uint64pow10).toArray)).modify 6 (putC (litsV Rows.laid_math_bits_deBruijn32tab).toArray)).modify 7 (putC (litsV Rows.laid_math_bits_deBruijn64tab).toArray)).modify 3 (putC #[.iface 735 (.pointer (some ⟨h.size,0,none⟩))])).modify 4 (putC #[.iface 735 (.pointer (some ⟨h.size+1,0,none⟩))])).push (.cells #[.string ⟨#[105,110,118,97,108,105,100,32,115,121,110,116,97,120]⟩] 737 (0,0))).push (.cells #[.string ⟨#[118,97,108,117,101,32,111,117,116,32,111,102,32,114,97,110,103,101]⟩] 737 (0,0)))}
theorem laid_met(a:Os):laidMet Tryz.prog Rows.componentCopiesUptoRow.laid ((laidWorld a).forCall (fun _ _=>0) ⟨#[],#[Value.string .empty],[]⟩).memory:=laidMet_of_run' 8 (by kernel_rfl) (by kernel_rfl)
theorem reads(b:Os){H:Type}(a:TypeId×Value->H):∃c,DataW.whole a Tryz.prog ((laidWorld b).forCall (fun _ _=>0) ⟨#[],#[Value.string .empty],[]⟩).memory Tryz.f4.params.toList Rows.componentCopiesSpec.vars false #[Value.string .empty].toList 8=some ([.lit (.string [])],[],c):=⟨[],by kernel_rfl⟩
set_option maxRecDepth 100000 in theorem liftedUpto(b:Os)(o:b.Started)(H:Type)(a:TypeId×Value->H)(F:Stop.Interp):ReturnsInHanded {} Tryz.checked b 4 .any ((Rows.OpenSpec.upto Rows.componentCopiesSpec).preRow a Tryz.prog Tryz.f4 Rows.componentCopiesUptoRow.domain false Rows.componentCopiesUptoRow.laid) (((Rows.OpenSpec.upto Rows.componentCopiesSpec).at F).post a Tryz.prog Tryz.f4 false true false false):=by
 obtain⟨p,n⟩:=reads b a;refine returnsInHanded_of_row (C:=Tryz.checked) (s:=Rows.OpenSpec.upto Rows.componentCopiesSpec) own o (by kernel_rfl) Tryz.func4 (witness_row_at (enc:=a) (C:=Tryz.checked) false (laidWorld b) #[Value.string .empty] rfl (by kernel_rfl) (by kernel_rfl) (by kernel_rfl) (OpenSpec.preRow_of_cond 8 n (by kernel_rfl) (fun k l=>by cases l;kernel_rfl) (by kernel_rfl) (laid_met b))) ?_;intro W d c e f before m i _ j _ g h _;exact contract H a W d c e f before m i (j _ rfl) h g
theorem saidUpto:Rows.ComponentCopiesUptoSaid:=OpenClaim.holds_of_cond 4 Tryz.f4 rfl rfl rfl rfl rfl rfl rfl ⟨rfl,rfl,rfl,rfl,rfl⟩ rfl rfl rfl rfl rfl xa5 Tryz.func4 closed (of_decide_eq_true (by kernel_rfl)) (by unfold Func.isWrapper;first|(rw[if_pos (by decide+kernel)];kernel_rfl)|(rw[if_neg (by decide+kernel)];exact⟨rfl,rfl⟩)) (fun b c H a _ F=>by rw[OpenClaim.pre_eq_preRow];exact liftedUpto b c H a F)
set_option maxRecDepth 100000 in theorem plain(f:FuncId)(a:Func)(c:Tryz.pinned.checked.prog.funcNamed Tryz.f4.name=some f)(d:Tryz.pinned.checked.prog.funcs[f]?=some a):true=Tryz.pinned.checked.prog.looks []/\∀(j:Nat)t,a.params[j]?=some t->Tryz.pinned.checked.prog.wantsStandIn t=false:=by
 obtain rfl:f=4:=Option.some.inj ((show Tryz.prog.funcNamed Tryz.f4.name=some 4 by kernel_rfl).symm.trans c)|>.symm;obtain rfl:a=Tryz.f4:=(Option.some.inj (Tryz.func4.symm.trans d)).symm;refine⟨by kernel_rfl,fun j t b=>?_⟩;rw[Tryz.params4]at b;obtain rfl:t=9:=by simpa using Array.mem_of_getElem? b
 exact(show Tryz.prog.wantsStandIn 9=false by kernel_rfl)
end copies
theorem componentCopies_holds:Rows.ComponentCopiesUptoCardSaid:=Claim7.holds_tied_plain_at .later [] _ _ _ _ copies.saidUpto (fun _ h=>by cases h) copies.wfT (fun _ h=>by cases h) yy7 rfl ⟨rfl,rfl⟩ copies.mainT rfl copies.plain copies.goesT
end
end Go.Proofs.YtpefhfiehfkocaaGreatDoor
