/- 'licitlaw38.ComponentRelates' returns true for all inputs and leaves its arguments as they were: where they are together of bulk at most 1048576 (the second form); the tables and the two errors of the -/
import Derived.Test.YtpefhfiehfkocaaGreatDoorRow42
import Derived.Test.YtpefhfiehfkocaaGreatDoorCards
import Derived.Test.YtpefhfiehfkocaaGreatDoorTieA
import Derived.Test.YtpefhfiehfkocaaGreatDoorFcRelates
import Derived.WalkKit
import Derived.ProofKit
import Derived.OpenShut
import Derived.Deep.DeepHandedRow
import Derived.Carry
namespace Go.Proofs.YtpefhfiehfkocaaGreatDoor
namespace relates
open Go.ChangeShapes Go.WideShapes Go.ChangeAt Go.RowKit
theorem own:ownKnob Tryz.prog.godebug=none:=by kernel_rfl
theorem laidOut:laidOutB Tryz.prog=true:=k1
theorem u4:Tryz.prog.underlying 4=some .bool:=by kernel_rfl
theorem pure_at(m:GvP):PureOK Tryz.prog (gv1 m) 3 F_relates:=relates_pure m
set_option maxRecDepth 100000 in
theorem contract(H:Type)(enc:TypeId×Value→H)(W:World)(base:Nat)(args:Array Value)(ds gs:List (DataW H))(before:List MemPlace)
    (hval:∀ (j:Nat) t v,Tryz.f3.params[j]?=some t→args[j]?=some v→Value.okWide Tryz.prog W .any base t v)
    (hW:DataW.Whole enc Tryz.prog Tryz.f3.params.toList Rows.componentRelatesSpec.vars false W args.toList ds gs before) (hk:Rows.uptoSmall H (ds++gs)=true) (hS:W.ShapedOpen Tryz.prog) (hL:laidMetH Tryz.prog laidT W) :
    Calls Tryz.prog 3 args W fun e W'=>∃ v,e=.returned v∧Rows.componentRelatesSpec.post enc Tryz.prog Tryz.f3 false true false false W args v W':=by
  have hW':=hW;obtain ⟨p,q,hA0,hV,rfl,hfz,hnd⟩:=hW;have hA:DataW.TrodAll enc Tryz.prog W 0 (fun _=>true) true Tryz.f3.params.toList args.toList ds p:=hA0;rw [Tryz.params3]at hA hval;obtain ⟨v0,vs0,d0,ds0,p0,q0,hargs,rfl,rfl,h0,r0⟩:=trodAll_cons hA;obtain ⟨v1,vs1,d1,ds1,p1,q1,rfl,rfl,rfl,h1,r1⟩:=trodAll_cons r0;obtain ⟨v2,vs2,d2,ds2,p2,q2,rfl,rfl,rfl,h2,r2⟩:=trodAll_cons r1;obtain ⟨rfl,rfl,rfl⟩:=trodAll_nil r2;obtain rfl:args=#[v0,v1,v2]:=by cases args; simp_all
  obtain ⟨rfl,rfl⟩:=trodVars_none hV;obtain ⟨m,hm⟩:=laid_of hS hL;have hbound:=bulks.bound hk;obtain ⟨fuel0,hf0⟩:=h0;obtain ⟨fuel1,hf1⟩:=h1;obtain ⟨fuel2,hf2⟩:=h2;simp only [List.append_nil,Rows.uptoBulkAll]at hbound;obtain ⟨fs0,hu0⟩:∃ fs0,Tryz.prog.underlying 25=some (.struct fs0):=by obtain ⟨f0,f1,f2,hu,_⟩:=sOrg; exact ⟨_,hu⟩
  obtain ⟨vs0,rfl,hvs0⟩:=okWide_struct hu0 (hval 0 25 v0 rfl rfl);obtain ⟨a1,len1,cap1,rfl⟩:=okWide_slice uOs (hval 1 26 v1 rfl rfl);obtain ⟨s2,rfl⟩:=okWide_string u9 (hval 2 9 v2 rfl rfl);obtain ⟨b0,hb0,hok0⟩:=of_org hf0 (by simp only; omega);simp only at hb0;have hr0:=(trod_rel 8 25 fuel0 _ _ flOrg hf0).1;rw [hb0]at hr0;have hag0:Rel (Cx.pure (imOf W)) (.agg b0.cells) (.agg vs0):=.agg _ _ (by have h:=hr0.1; simp at h ⊢; exact h) (fun i c v hc hv=>hr0.2 i c v hc (by have h:=hv; simp at h ⊢; exact h));obtain ⟨b1,hb1,hok1,hln1⟩:=of_orgs hf1 (by simp only; omega);obtain ⟨b2,hb2,hl2⟩:=of_strB hf2 (by simp only; omega);have hrel:=(RelL.cons hag0 .nil).append ((trod_rel 8 26 fuel1 _ _ flOs hf1).1.append ((trod_rel 8 9 fuel2 _ _ fl9 hf2).1));simp only at hb1 hb2;rw [hb1,hb2]at hrel;have hc:=call_row (pure_at m) hm (args:=#[.agg vs0,.slice a1 len1 cap1,.string s2]) (avs:=[.agg b0.cells,.sl (orgRows b1),.str b2]) hrel (by simp only [F_relates,decOrg_cells,dec_orgRows]; exact if_pos ⟨hok0,hok1,hln1⟩);refine hc.mono fun e W' ⟨he,hbel⟩=>?_
  subst he;have h0':DataW.Trod enc Tryz.prog W 0 (fun _=>true) true 25 (.agg vs0) d0 p0:=⟨fuel0,hf0⟩;have h1':DataW.Trod enc Tryz.prog W 0 (fun _=>true) true 26 (.slice a1 len1 cap1) d1 p1:=⟨fuel1,hf1⟩;have h2':DataW.Trod enc Tryz.prog W 0 (fun _=>true) true 9 (.string s2) d2 p2:=⟨fuel2,hf2⟩;exact ⟨_,rfl,_,_,_,[],_,[],hW',trodAll_mk1 (shut_bool u4 _),trodAll_cons_mk (Below.trod laidOut (by kernel_rfl) (of_decide_eq_true (by kernel_rfl)) h0' hbel (fun x hx=>hW'.lt x (by simp [hx]))) (trodAll_cons_mk (Below.trod laidOut (by kernel_rfl) (of_decide_eq_true (by kernel_rfl)) h1' hbel (fun x hx=>hW'.lt x (by simp [hx]))) (trodAll_cons_mk (Below.trod laidOut (by kernel_rfl) (of_decide_eq_true (by kernel_rfl)) h2' hbel (fun x hx=>hW'.lt x (by simp [hx]))) trodAll_mk0)),rfl,hbel.frame _,fun h=>by cases h⟩
def putC(cs:Array Value):Obj→Obj
  | .cells _ t frozen=>.cells cs t frozen
  | o=>o
mutual
def litsV:DataW Unit→List Value
  | .lit (.int k n)=>[.int k n]
  | .agg ds=>litsVL ds
  | _=>[]
def litsVL:List (DataW Unit)→List Value
  | []=>[]
  | d::ds=>litsV d++litsVL ds
end
noncomputable def laidWorld(os:Os):World:=
  let h:=(World.holding Tryz.prog os ⟨#[],#[],[]⟩).heap
  { World.holding Tryz.prog os ⟨#[],#[],[]⟩with heap:=(((((((((h.modify 1 (putC (litsV Rows.laid_unicode_utf8_first).toArray)).modify 2 (putC (litsV Rows.laid_unicode_utf8_acceptRanges).toArray)).modify 5 (putC (litsV Rows.laid_internal_strconv_uint64pow10).toArray)).modify 6 (putC (litsV Rows.laid_math_bits_deBruijn32tab).toArray)).modify 7 (putC (litsV Rows.laid_math_bits_deBruijn64tab).toArray)).modify 3 (putC #[.iface 735 (.pointer (some ⟨h.size,0,none⟩))])).modify 4 (putC #[.iface 735 (.pointer (some ⟨h.size+1,0,none⟩))])).push (.cells #[.string ⟨#[105,110,118,97,108,105,100,32,115,121,110,116,97,120]⟩] 737 (0,0))).push (.cells #[.string ⟨#[118,97,108,117,101,32,111,117,116,32,111,102,32,114,97,110,103,101]⟩] 737 (0,0))) }
theorem laid_met(os:Os):laidMet Tryz.prog Rows.componentRelatesUptoRow.laid ((laidWorld os).forCall (fun _ _=>0) ⟨#[],#[Value.agg #[.slice none 0 0,.slice none 0 0,.slice none 0 0],Value.slice none 0 0,Value.string .empty],[]⟩).memory:=
  laidMet_of_run' 8 (by kernel_rfl) (by kernel_rfl)
theorem reads(os:Os){H:Type}(enc:TypeId×Value→H):∃ places,DataW.whole enc Tryz.prog ((laidWorld os).forCall (fun _ _=>0) ⟨#[],#[Value.agg #[.slice none 0 0,.slice none 0 0,.slice none 0 0],Value.slice none 0 0,Value.string .empty],[]⟩).memory Tryz.f3.params.toList Rows.componentRelatesSpec.vars false #[Value.agg #[.slice none 0 0,.slice none 0 0,.slice none 0 0],Value.slice none 0 0,Value.string .empty].toList 8=some ([.agg [.nil,.nil,.nil],.nil,.lit (.string [])],[],places):=
  ⟨[],by kernel_rfl⟩
set_option maxRecDepth 100000 in
theorem liftedUpto(os:Os)(started:os.Started)(H:Type)(enc:TypeId×Value→H)(F:Stop.Interp) :
    ReturnsInHanded {} Tryz.checked os 3 .any ((Rows.OpenSpec.upto Rows.componentRelatesSpec).preRow enc Tryz.prog Tryz.f3 Rows.componentRelatesUptoRow.domain false Rows.componentRelatesUptoRow.laid) (((Rows.OpenSpec.upto Rows.componentRelatesSpec).at F).post enc Tryz.prog Tryz.f3 false true false false):=by
  obtain ⟨places,hx⟩:=reads os enc;refine returnsInHanded_of_row (C:=Tryz.checked) (s:=Rows.OpenSpec.upto Rows.componentRelatesSpec) own started (by kernel_rfl) Tryz.func3
    (witness_row_at (enc:=enc) (C:=Tryz.checked) false (laidWorld os) #[Value.agg #[.slice none 0 0,.slice none 0 0,.slice none 0 0],Value.slice none 0 0,Value.string .empty] rfl (by kernel_rfl) (by kernel_rfl) (by kernel_rfl)
      (OpenSpec.preRow_of_cond 8 hx (by kernel_rfl) (fun k hk=>by cases hk; kernel_rfl) (by kernel_rfl) (laid_met os))) ?_
  intro W base args ds gs before hval hW _ hcond _ hL hS _;exact contract H enc W base args ds gs before hval hW (hcond _ rfl) hS hL
theorem saidUpto:Rows.ComponentRelatesUptoSaid:=
  OpenClaim.holds_of_cond 3 Tryz.f3 rfl rfl rfl rfl rfl rfl rfl ⟨rfl,rfl,rfl,rfl,rfl⟩ rfl rfl rfl rfl rfl nameT Tryz.func3 closed
    (of_decide_eq_true (by kernel_rfl)) (by unfold Func.isWrapper; first | (rw [if_pos (by decide +kernel)]; kernel_rfl) | (rw [if_neg (by decide +kernel)]; exact ⟨rfl,rfl⟩))
    (fun os started H enc _ F=>by rw [OpenClaim.pre_eq_preRow]; exact liftedUpto os started H enc F)
set_option maxRecDepth 100000 in
theorem plain(f:FuncId)(fn:Func)(hf:Tryz.pinned.checked.prog.funcNamed Tryz.f3.name=some f)(hfn:Tryz.pinned.checked.prog.funcs[f]?=some fn) :
    true=Tryz.pinned.checked.prog.looks []∧∀ (j:Nat) t,fn.params[j]?=some t→Tryz.pinned.checked.prog.wantsStandIn t=false:=by
  obtain rfl:f=3:=Option.some.inj ((show Tryz.prog.funcNamed Tryz.f3.name=some 3 by kernel_rfl).symm.trans hf) |>.symm;obtain rfl:fn=Tryz.f3:=(Option.some.inj (Tryz.func3.symm.trans hfn)).symm;refine ⟨by kernel_rfl,fun j t ht=>?_⟩
  rw [Tryz.params3]at ht;have ht':t=25∨t=26∨t=9:=by have:=Array.mem_of_getElem? ht; simp at this; omega
  rcases ht' with rfl | rfl | rfl
  · exact (show Tryz.prog.wantsStandIn 25=false by kernel_rfl)
  · exact (show Tryz.prog.wantsStandIn 26=false by kernel_rfl)
  · exact (show Tryz.prog.wantsStandIn 9=false by kernel_rfl)
end relates
theorem componentRelates_holds:Rows.ComponentRelatesUptoCardSaid:=
  Claim7.holds_tied_plain_at .later [] _ _ _ _ relates.saidUpto (fun _ h=>by cases h) relates.wfT (fun _ h=>by cases h) componentRelatesUpto_row_tie rfl ⟨rfl,rfl⟩ relates.mainT rfl relates.plain relates.goesT
end Go.Proofs.YtpefhfiehfkocaaGreatDoor
