/- slices.IndexFunc and ContainsFunc at spans: by program (tmpl). slices.Sort of numbers: the shelf's contract,turned. -/
import Derived.Test.YtpefhfiehfkocaaGreatDoorOA
import Derived.Test.YtpefhfiehfkocaaGreatDoorAm10
import Derived.Test.YtpefhfiehfkocaaGreatDoorRmJ
import Derived.Test.YtpefhfiehfkocaaGreatDoorRmD
namespace Go.Proofs.YtpefhfiehfkocaaGreatDoor
open Go.RowKit Go.IntWalk
theorem idxf_loop_slices_IndexFunc_api_Lines_api_Span_(G:Gam)(h:Heap)(rows:List (List AV))(f:FuncId)(caps:List AV)(hb:rows.length≤big):∀ (rest:List (List AV)) (i:Nat) (v:Int),rows.drop i=rest→findA (fun row=>if row.length=3 then (mkVal true 3 row).bind (ask G h f caps)else none) i rest=some v→
  headM G [5] Mc.q18_L0 h.length [.blk 0,.seq (.seq (.reg [kz 4 .mv [.c (.int .i64 (-1))]]) .ret)] (lookQ Rs.q18 (.int .i64 v) h)
  [(0,.sl rows),(1,.fn f caps),(4,.int .i64 0),(5,.junk),(7,.int .i64 rows.length),(8,.int .i64 i)] h
 | [],i,v,hd,hv=>by
  have hi:=drop_nil hd;have hi':¬ (i:Int)<rows.length:=by omega
  simp only [findA,Option.some.injEq]at hv; subst hv;refine head_go (Mc.q18_L0.eq_1) ?_
  simp [ltB,hi',lookQ,Rs.q18,owns,freezeAll]
 | x::rest,i,v,hd,hv=>by
  obtain ⟨hi,hx,hxd⟩:=drop_cons hd;have hi':(i:Int)<rows.length:=by omega
  have hw:=wrap1 (i:=i) (by omega);by_cases hl:x.length=3
  ·simp only [findA,hl,if_true]at hv
   cases hm:mkVal true 3 x with
   | none=>simp [hm]at hv
   | some a=>
    simp only [hm,Option.bind_some]at hv;have hcut:mkVal true 3 (cut x 0 3)=some a:=by rw [cut_all hl]; exact hm
    cases ha:ask G h f caps a with
    | none=>simp [ha]at hv
    | some b=>
     have hc:=ask_call ha;simp only [ha]at hv;refine head_go (Mc.q18_L0.eq_1) ?_
     cases b with
     | true=>
      simp only [Option.some.injEq]at hv; subst hv;simp [ltB,hi',iadr_sl hx hl,hcut,hc,lookQ,Rs.q18,owns,freezeAll]
     | false=>
      simp [ltB,hi',iadr_sl hx hl,hcut,hc,hw];refine head_of ?_
      have ih:=idxf_loop_slices_IndexFunc_api_Lines_api_Span_ G h rows f caps hb rest (i+1) v hxd hv;simpa using ih
  ·simp [findA,hl]at hv
theorem idxf_ok_slices_IndexFunc_api_Lines_api_Span_(G:Gam):∀ args h r,F_IndexFunc true 3 G args h=some r→wpM G Mc.q18 (lookQ Rs.q18 r h) [] (frInit Ks.q18 args) h:=by
 intro args h r hF
 obtain ⟨rows,f,caps,v,rfl,hb,hv,rfl⟩:=F_IndexFunc_inv hF
 rw [wpM_go]
 have ih:=idxf_loop_slices_IndexFunc_api_Lines_api_Span_ G h rows f caps hb rows 0 v rfl hv
 simpa [Mc.q18,frInit,Ks.q18] using ih
theorem contf_ok_slices_ContainsFunc_api_Lines_api_Span_(G G0:Gam)(hG:G Fn.q18=some (.gen (lookF (F_IndexFunc true 3 G0)))):∀ args h r,F_ContainsFunc true 3 G0 args h=some r→wpM G Mc.q14 (lookQ Rs.q14 r h) [] (frInit Ks.q14 args) h:=by
 intro args h r hF
 obtain ⟨rows,f,caps,v,rfl,hb,hv,rfl⟩:=F_ContainsFunc_inv hF
 rw [wpM_go]
 have hc:∀ h0:Heap,h0=h→opV G false h0 (.call Fn.q18) (some [.sl rows,.fn f caps])=some (.int .i64 v,h0):=fun h0 e=>by subst e; rw [op_call_gen hG]; simp [lookF,F_IndexFunc,hb,hv]
 simp [Mc.q14,frInit,Ks.q14,hc,lookQ,Rs.q14,owns,freezeAll]
end Go.Proofs.YtpefhfiehfkocaaGreatDoor
namespace Go.Proofs.YtpefhfiehfkocaaGreatDoor
open Go.RowKit
def eI(n:Int):List AV:=[.int .i64 n]
def decI:List AV→Option Int
 | [.int .i64 n]=>some n
 | _=>none
@[simp] theorem decI_row(n:Int):decI (eI n)=some n:=rfl
theorem decI_of{r:List AV}{n:Int}(h:decI r=some n):r=eI n:=by
 unfold decI at h; split at h
 ·injection h with h; subst h; rfl
 ·cases h
end Go.Proofs.YtpefhfiehfkocaaGreatDoor
