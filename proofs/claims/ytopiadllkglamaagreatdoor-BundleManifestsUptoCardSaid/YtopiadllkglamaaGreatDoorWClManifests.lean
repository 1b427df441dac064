/- 'licitlaw46.BundleManifests' returns true for all inputs and leaves its arguments as they were: where they are together of bulk at most 1048576 (the second form); the tables and the two errors of the  -/
import Derived.Test.YtopiadllkglamaaGreatDoorWRow25
import Derived.Test.YtopiadllkglamaaGreatDoorCards
import Derived.Test.YtopiadllkglamaaGreatDoorTieA
import Derived.Test.YtopiadllkglamaaGreatDoorWFcManifests
import Derived.WalkKit
import Derived.ProofKit
import Derived.OpenShut
import Derived.Deep.DeepHandedRow
import Derived.Carry
namespace Go.Proofs.YtopiadllkglamaaGreatDoor
namespace manifests
open Go.ChangeShapes Go.WideShapes Go.ChangeAt Go.RowKit
theorem own : ownKnob Tryz.prog.godebug = none := by kernel_rfl
theorem laidOut : laidOutB Tryz.prog = true := by kernel_rfl
theorem u4 : Tryz.prog.underlying 4 = some .bool := by kernel_rfl
theorem pure_at (m : GvP) : zd0 Tryz.prog (gv1 m) 5 zh0 := yc4 m
set_option maxRecDepth 100000 in
theorem contract (H : Type) (enc : TypeId × Value → H) (W : World) (base : Nat) (args : Array Value) (ds gs : List (DataW H)) (zT9 : List MemPlace)
    (hval : ∀ (j : Nat) t v,Tryz.f5.params[j]? = some t → args[j]? = some v → Value.okWide Tryz.prog W .any base t v)
    (hW : DataW.Whole enc Tryz.prog Tryz.f5.params.toList Rows.bundleManifestsSpec.vars false W args.toList ds gs zT9) (hk : Rows.uptoSmall H (ds ++ gs) = true) (hS : W.ShapedOpen Tryz.prog) (hL : laidMetH Tryz.prog laidT W) :
    Calls Tryz.prog 5 args W fun e W' => ∃ v,e = .returned v ∧ Rows.bundleManifestsSpec.post enc Tryz.prog Tryz.f5 false true false false W args v W' := by
  have hW' := hW
  obtain ⟨p,q,hA0,hV,rfl,hfz,hnd⟩ := hW
  have hA : DataW.TrodAll enc Tryz.prog W 0 (fun _ => true) true Tryz.f5.params.toList args.toList ds p := hA0
  rw [Tryz.params5] at hA hval
  obtain ⟨v0,vs0,d0,ds0,p0,q0,hargs,rfl,rfl,h0,r0⟩ := trodAll_cons hA
  obtain ⟨v1,vs1,d1,ds1,p1,q1,rfl,rfl,rfl,h1,r1⟩ := trodAll_cons r0
  obtain ⟨v2,vs2,d2,ds2,p2,q2,rfl,rfl,rfl,h2,r2⟩ := trodAll_cons r1
  obtain ⟨v3,vs3,d3,ds3,p3,q3,rfl,rfl,rfl,h3,r3⟩ := trodAll_cons r2
  obtain ⟨rfl,rfl,rfl⟩ := trodAll_nil r3
  obtain rfl : args = #[v0,v1,v2,v3] := by cases args; simp_all
  obtain ⟨rfl,rfl⟩ := trodVars_none hV
  obtain ⟨m,hm⟩ := laid_of hS hL
  have hbound := bulks.bound hk
  obtain ⟨fuel0,hf0⟩ := h0
  obtain ⟨fuel1,hf1⟩ := h1
  obtain ⟨fuel2,hf2⟩ := h2
  obtain ⟨fuel3,hf3⟩ := h3
  simp only [List.append_nil,Rows.uptoBulkAll] at hbound
  obtain ⟨s0,rfl⟩ := okWide_string u9 (hval 0 9 v0 rfl rfl)
  obtain ⟨s1,rfl⟩ := okWide_string u9 (hval 1 9 v1 rfl rfl)
  obtain ⟨a2,len2,cap2,rfl⟩ := okWide_slice uTree (hval 2 27 v2 rfl rfl)
  obtain ⟨a3,len3,cap3,rfl⟩ := okWide_slice uTree (hval 3 27 v3 rfl rfl)
  obtain ⟨b0,hb0,hl0⟩ := of_strB hf0 (by simp only; omega)
  obtain ⟨b1,hb1,hl1⟩ := of_strB hf1 (by simp only; omega)
  obtain ⟨b2,hb2,hl2,hd2⟩ := of_tree hf2
  obtain ⟨b3,hb3,hl3,hd3⟩ := of_tree hf3
  have hrel := (zF3 8 9 fuel0 _ _ fl9 hf0).1.append ((zF3 8 9 fuel1 _ _ fl9 hf1).1.append ((zF3 8 27 fuel2 _ _ flTree hf2).1.append ((zF3 8 27 fuel3 _ _ flTree hf3).1)))
  simp only at hb0 hb1 hb2 hb3
  rw [hb0,hb1,hb2,hb3] at hrel
  have hc := call_row (pure_at m) hm (args := #[.string s0,.string s1,.slice a2 len2 cap2,.slice a3 len3 cap3]) (avs := [.str b0,.str b1,.sl (za1 b2),.sl (za1 b3)]) hrel (by simp only [zh0,zh1]; exact if_pos ⟨⟨by simp only at hl2; unfold big; omega,List.all_eq_true.2 fun t ht => by have := hd2 t ht; simp only [decide_eq_true_eq]; simp only at this; omega⟩,⟨by simp only at hl3; unfold big; omega,List.all_eq_true.2 fun t ht => by have := hd3 t ht; simp only [decide_eq_true_eq]; simp only at this; omega⟩⟩)
  refine hc.mono fun e W' ⟨he,hbel⟩ => ?_
  subst he
  have h0' : DataW.Trod enc Tryz.prog W 0 (fun _ => true) true 9 (.string s0) d0 p0 := ⟨fuel0,hf0⟩
  have h1' : DataW.Trod enc Tryz.prog W 0 (fun _ => true) true 9 (.string s1) d1 p1 := ⟨fuel1,hf1⟩
  have h2' : DataW.Trod enc Tryz.prog W 0 (fun _ => true) true 27 (.slice a2 len2 cap2) d2 p2 := ⟨fuel2,hf2⟩
  have h3' : DataW.Trod enc Tryz.prog W 0 (fun _ => true) true 27 (.slice a3 len3 cap3) d3 p3 := ⟨fuel3,hf3⟩
  exact ⟨_,rfl,_,_,_,[],_,[],hW',trodAll_mk1 (shut_bool u4 _),trodAll_cons_mk (Below.trod laidOut (by kernel_rfl) (of_decide_eq_true (by kernel_rfl)) h0' hbel (fun x hx => hW'.lt x (by simp [hx]))) (trodAll_cons_mk (Below.trod laidOut (by kernel_rfl) (of_decide_eq_true (by kernel_rfl)) h1' hbel (fun x hx => hW'.lt x (by simp [hx]))) (trodAll_cons_mk (Below.trod laidOut (by kernel_rfl) (of_decide_eq_true (by kernel_rfl)) h2' hbel (fun x hx => hW'.lt x (by simp [hx]))) (trodAll_cons_mk (Below.trod laidOut (by kernel_rfl) (of_decide_eq_true (by kernel_rfl)) h3' hbel (fun x hx => hW'.lt x (by simp [hx]))) trodAll_mk0))),rfl,hbel.frame _,fun h => by cases h⟩
def putC (cs : Array Value) : Obj → Obj
  | .cells _ t frozen => .cells cs t frozen
  | o => o
mutual
def litsV : DataW Unit → List Value
  | .lit (.int k n) => [.int k n]
  | .agg ds => litsVL ds
  | _ => []
def litsVL : List (DataW Unit) → List Value
  | [] => []
  | d :: ds => litsV d ++ litsVL ds
end
noncomputable def laidWorld (os : Os) : World :=
  let h := (World.holding Tryz.prog os ⟨#[],#[],[]⟩).heap
  { World.holding Tryz.prog os ⟨#[],#[],[]⟩ with heap := (((((((((h.modify 4 (putC (litsV Rows.laid_unicode_utf8_first).toArray)).modify 5 (putC (litsV Rows.laid_unicode_utf8_acceptRanges).toArray)).modify 1 (putC (litsV Rows.laid_internal_strconv_uint64pow10).toArray)).modify 6 (putC (litsV Rows.laid_math_bits_deBruijn32tab).toArray)).modify 7 (putC (litsV Rows.laid_math_bits_deBruijn64tab).toArray)).modify 2 (putC #[.iface 245 (.pointer (some ⟨h.size,0,none⟩))])).modify 3 (putC #[.iface 245 (.pointer (some ⟨h.size + 1,0,none⟩))])).push (.cells #[.string ⟨#[105,110,118,97,108,105,100,32,115,121,110,116,97,120]⟩] 247 (0,0))).push (.cells #[.string ⟨#[118,97,108,117,101,32,111,117,116,32,111,102,32,114,97,110,103,101]⟩] 247 (0,0))) }
theorem laid_met (os : Os) : laidMet Tryz.prog Rows.bundleManifestsUptoRow.laid ((laidWorld os).forCall (fun _ _ => 0) ⟨#[],#[Value.string .empty,Value.string .empty,Value.slice none 0 0,Value.slice none 0 0],[]⟩).memory :=
  laidMet_of_run' 8 (by kernel_rfl) (by kernel_rfl)
theorem reads (os : Os) {H : Type} (enc : TypeId × Value → H) : ∃ places,DataW.whole enc Tryz.prog ((laidWorld os).forCall (fun _ _ => 0) ⟨#[],#[Value.string .empty,Value.string .empty,Value.slice none 0 0,Value.slice none 0 0],[]⟩).memory Tryz.f5.params.toList Rows.bundleManifestsSpec.vars false #[Value.string .empty,Value.string .empty,Value.slice none 0 0,Value.slice none 0 0].toList 8 = some ([.lit (.string []),.lit (.string []),.nil,.nil],[],places) :=
  ⟨[],by kernel_rfl⟩
set_option maxRecDepth 100000 in
theorem liftedUpto (os : Os) (started : os.Started) (H : Type) (enc : TypeId × Value → H) (F : Stop.Interp) :
    ReturnsInHanded {} Tryz.checked os 5 .any ((Rows.OpenSpec.upto Rows.bundleManifestsSpec).preRow enc Tryz.prog Tryz.f5 Rows.bundleManifestsUptoRow.domain false Rows.bundleManifestsUptoRow.laid) (((Rows.OpenSpec.upto Rows.bundleManifestsSpec).at F).post enc Tryz.prog Tryz.f5 false true false false) := by
  obtain ⟨places,hx⟩ := reads os enc
  refine returnsInHanded_of_row (C := Tryz.checked) (s := Rows.OpenSpec.upto Rows.bundleManifestsSpec) own started (by kernel_rfl) Tryz.func5
    (witness_row_at (enc := enc) (C := Tryz.checked) false (laidWorld os) #[Value.string .empty,Value.string .empty,Value.slice none 0 0,Value.slice none 0 0] rfl (by kernel_rfl) (by kernel_rfl) (by kernel_rfl)
      (OpenSpec.preRow_of_cond 8 hx (by kernel_rfl) (fun k hk => by cases hk; kernel_rfl) (by kernel_rfl) (laid_met os))) ?_
  intro W base args ds gs zT9 hval hW _ hcond _ hL hS _
  exact contract H enc W base args ds gs zT9 hval hW (hcond _ rfl) hS hL
theorem saidUpto : Rows.BundleManifestsUptoSaid :=
  OpenClaim.holds_of_cond 5 Tryz.f5 rfl rfl rfl rfl rfl rfl rfl ⟨rfl,rfl,rfl,rfl,rfl⟩ rfl rfl rfl rfl rfl nameT Tryz.func5 closed
    (of_decide_eq_true (by kernel_rfl)) (by unfold Func.isWrapper; first | (rw [if_pos (by decide +kernel)]; kernel_rfl) | (rw [if_neg (by decide +kernel)]; exact ⟨rfl,rfl⟩))
    (fun os started H enc _ F => by rw [OpenClaim.pre_eq_preRow]; exact liftedUpto os started H enc F)
set_option maxRecDepth 100000 in
theorem plain (f : FuncId) (fn : Func) (hf : Tryz.pinned.checked.prog.funcNamed Tryz.f5.name = some f) (hfn : Tryz.pinned.checked.prog.funcs[f]? = some fn) :
    true = Tryz.pinned.checked.prog.looks [] ∧ ∀ (j : Nat) t,fn.params[j]? = some t → Tryz.pinned.checked.prog.wantsStandIn t = false := by
  obtain rfl : f = 5 := Option.some.inj ((show Tryz.prog.funcNamed Tryz.f5.name = some 5 by kernel_rfl).symm.trans hf) |>.symm
  obtain rfl : fn = Tryz.f5 := (Option.some.inj (Tryz.func5.symm.trans hfn)).symm
  refine ⟨by kernel_rfl,fun j t ht => ?_⟩
  rw [Tryz.params5] at ht
  have ht' : t = 9 ∨ t = 27 := by have := Array.mem_of_getElem? ht; simp at this; omega
  rcases ht' with rfl | rfl
  · exact (show Tryz.prog.wantsStandIn 9 = false by kernel_rfl)
  · exact (show Tryz.prog.wantsStandIn 27 = false by kernel_rfl)
end manifests
theorem bundleManifests_holds : Rows.BundleManifestsUptoCardSaid :=
  Claim7.holds_tied_plain_at .later [] _ _ _ _ manifests.saidUpto (fun _ h => by cases h) manifests.wfT (fun _ h => by cases h) bundleManifestsUpto_row_tie rfl ⟨rfl,rfl⟩ manifests.mainT rfl manifests.plain manifests.goesT
end Go.Proofs.YtopiadllkglamaaGreatDoor
