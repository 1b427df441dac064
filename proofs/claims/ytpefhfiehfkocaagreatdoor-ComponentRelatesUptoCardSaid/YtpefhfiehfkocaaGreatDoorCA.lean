/- The iterators component.sources$1 and maps.Keys$1,resolved: by program. The functions of component.Relate and its reference,resolved: by program (Gen.lean; numbers of the seat of row 42). slices.Ind -/
import Derived.Test.YtpefhfiehfkocaaGreatDoorRecMc
import Derived.Test.YtpefhfiehfkocaaGreatDoorAm10
import Derived.Test.YtpefhfiehfkocaaGreatDoorRmJ
import Derived.Test.YtpefhfiehfkocaaGreatDoorRmK
import Derived.Test.YtpefhfiehfkocaaGreatDoorAm11
import Derived.Test.YtpefhfiehfkocaaGreatDoorRmA
namespace Go.Proofs.YtpefhfiehfkocaaGreatDoor
open Go.RowKit
def Ks.q50:List Nat:=[0,1,4,6,7,8,9,14,15,16]
def Rs.q50:List RV:=[]
def Dl.q50:List (List Nat):=[[4,6,14,15,16,999999],[6,999999]]
def Mc.q50_L1:MC:=(.seq (.reg [zb 17 .lss 16 15])
 (.seq (.ite (.t 17)
  .skip
  (.exit 2))
 (.seq (.blk 3 (.seq (.reg [zi 18 2 14 16,zL 19 2 18,kz 6 (.alloc [.str [],.str []]) [],zs 2 6 19])
 (.seq (.reg [zm 20 0,zf 21 0 4,zl 22 21,iz 23 (.bin .add) [.t 22,.c (.str [47])],zf 24 0 6,zl 25 24,zb 26 .add 23 25,zf 27 1 6,zl 28 27,iz 29 (.bld [.str [],.str []] [(0,1),(1,1)]) [.t 26,.t 28],iz 30 .callv [.t 20,.t 29],iz 31 (.un .not) [.t 30]])
 (.ite (.t 31)
  .ret
  .skip))))
 (.reg [zc 32 .add 16 1,zM 16 32]))))
def Mc.q50_L0:MC:=(.seq (.reg [zb 10 .lss 9 8])
 (.seq (.ite (.t 10)
  .skip
  (.exit 0))
 (.seq (.blk 1 (.seq (.reg [zi 11 4 7 9,zL 12 4 11,kz 4 (.alloc [.str [],.str [],.str [],.nils]) [],zs 4 4 12])
 (.seq (.reg [zf 13 3 4,kz 14 (.ld 1 false) [.t 13],kz 15 (.len 1) [.t 14],kz 16 .mv [.c (.int .i64 0)]])
 (.blk 2 (.loop [6,999999] Mc.q50_L1)))))
 (.reg [zc 33 .add 9 1,zM 9 33]))))
def Mc.q50:MC:=(.seq (.reg [kz 7 (.ld 1 false) [.t 1],kz 8 (.len 1) [.t 7],kz 9 .mv [.c (.int .i64 0)]])
 (.blk 0 (.loop [4,6,14,15,16,999999] Mc.q50_L0)))
def Ks.q13:List Nat:=[0,1,3,5]
def Rs.q13:List RV:=[]
def Dl.q13:List (List Nat):=[[3,999999]]
def Mc.q13_L0:MC:=(.seq (.rgn (.t 5) (some 6) false [ze 7 0 6])
 (.seq (.ite (.t 7)
  .skip
  (.exit 0))
 (.blk 1 (.seq (.reg [iz 8 .ent [.t 5],ze 9 0 8,zM 3 9])
 (.seq (.reg [zm 10 0,zm 11 3,iz 12 .callv [.t 10,.t 11],iz 13 (.un .not) [.t 12]])
 (.ite (.t 13)
  .ret
  .skip))))))
def Mc.q13:MC:=(.seq (.reg [zl 4 1,kz 5 .rngm [.t 4]])
 (.blk 0 (.loop [3,999999] Mc.q13_L0)))
end Go.Proofs.YtpefhfiehfkocaaGreatDoor
namespace Go.Proofs.YtpefhfiehfkocaaGreatDoor
open Go.RowKit
def Ks.q35:List Nat:=[0,1,2,3,6,7,8,9,10]
def Rs.q35:List RV:=[.tmp 6]
def Dl.q35:List (List Nat):=[]
def Mc.q35:MC:=(.seq (.reg [kz 3 .box [.t 0],kz 6 .mv [.c (.bool false)]])
 (.seq (.seq (.reg [zg 11 Fn.q60 [],iz 12 (.un .not) [.t 11]])
 (.ite (.t 12)
  (.seq (.reg [kz 6 .mv [.c (.bool false)]])
  .ret)
  .skip))
 (.seq (.seq (.reg [zL 13 3 3,zg 14 Fn.q45 [.t 13],iz 15 (.un .not) [.t 14],zm 16 15,gz 16 false 17 .mv [.t 1],gz 16 false 18 (.len 1) [.t 17],gz 16 false 19 (.bin .gtr) [.t 18,.c (.int .i64 6)],iz 20 .pick [.t 16,.c (.bool true),.t 19],zm 21 20,gz 21 false 22 .mv [.t 1],gz 21 false 23 (.call Fn.q9) [.t 22,.c (.fn Fn.q33 [])],iz 24 .pick [.t 21,.c (.bool true),.t 23],zm 25 24,gz 25 false 26 .mv [.t 2],gz 25 false 27 (.len 0) [.t 26],gz 25 false 28 (.bin .gtr) [.t 27,.c (.int .i64 300)],iz 29 .pick [.t 25,.c (.bool true),.t 28]])
 (.ite (.t 29)
  (.seq (.reg [kz 6 .mv [.c (.bool true)]])
  .ret)
  .skip))
 (.seq (.reg [zL 31 3 3,zm 32 1,zm 33 2,zg 34 Fn.q61 [.t 31,.t 32,.t 33],zm 30 34,ze 35 0 30,ze 36 1 30,zM 7 35,zM 8 36])
 (.seq (.reg [zL 38 3 3,zm 39 1,zm 40 2,zg 41 Fn.q55 [.t 38,.t 39,.t 40],zm 37 41,ze 42 0 37,ze 43 1 37,zM 9 42,zM 10 43])
 (.seq (.reg [zm 44 7,zm 45 9,zb 46 .eql 44 45,zm 47 46,gz 47 true 48 .mv [.t 8],gz 47 true 49 .mv [.t 10],gz 47 true 50 (.eqB false) [.t 48,.t 49],iz 51 .pick [.t 47,.t 50,.c (.bool false)],zM 6 51])
 .ret))))))
def Ks.q9:List Nat:=[0,1,4]
def Rs.q9:List RV:=[.tmp 4]
def Dl.q9:List (List Nat):=[]
def Mc.q9:MC:=(.seq (.reg [kz 4 .mv [.c (.bool false)]])
 (.seq (.reg [zm 5 0,zm 6 1,zg 7 Fn.q12 [.t 5,.t 6],zc 8 .geq 7 0,zM 4 8])
 .ret))
def Ks.q33:List Nat:=[0,1,2]
def Rs.q33:List RV:=[.tmp 2]
def Dl.q33:List (List Nat):=[]
def Mc.q33:MC:=(.seq (.reg [kz 1 .box [.t 0],kz 2 .mv [.c (.bool false)]])
 (.seq (.reg [zL 3 3 1,zg 4 Fn.q45 [.t 3],iz 5 (.un .not) [.t 4],zM 2 5])
 .ret))
def Ks.q61:List Nat:=[0,1,2,3,5,6,7]
def Rs.q61:List RV:=[.tmp 6,.tmp 7]
def Dl.q61:List (List Nat):=[]
def Mc.q61:MC:=(.seq (.reg [kz 3 .box [.t 0],kz 5 .box [.t 2],kz 6 .mv [.c (.int .i64 0)],kz 7 .mv [.c (.bool false)]])
 (.seq (.blk 0 (.seq (.reg [zf 9 0 3,zl 10 9,zl 11 5,zg 12 Fn.q51 [.t 10,.t 11],zm 8 12])
 (.ite (.t 8)
  (.seq (.reg [kz 6 .mv [.c (.int .i64 0)],kz 7 .mv [.c (.bool true)]])
  .ret)
  (.seq (.reg [zf 14 1 3,zl 15 14,zl 16 5,zg 17 Fn.q51 [.t 15,.t 16],zm 13 17])
  (.ite (.t 13)
   (.seq (.reg [kz 6 .mv [.c (.int .i64 1)],kz 7 .mv [.c (.bool true)]])
   .ret)
   (.seq (.reg [zm 19 1,iz 20 (.mkfn Fn.q54) [.t 5],zg 21 Fn.q9 [.t 19,.t 20],zm 18 21])
   (.ite (.t 18)
    (.seq (.reg [kz 6 .mv [.c (.int .i64 2)],kz 7 .mv [.c (.bool true)]])
    .ret)
    .skip)))))))
 (.seq (.reg [kz 6 .mv [.c (.int .i64 0)],kz 7 .mv [.c (.bool false)]])
 .ret)))
def Ks.q55:List Nat:=[0,1,2,3,6,7,8]
def Rs.q55:List RV:=[.tmp 6,.tmp 7]
def Dl.q55:List (List Nat):=[[]]
def Mc.q55_L0:MC:=(.seq (.seq (.reg [zm 17 8,zm 18 1,zn 19 1 18,zb 20 .lss 17 19])
 (.ite (.t 20)
  .skip
  (.exit 0)))
 (.seq (.blk 1 (.seq (.reg [zm 23 1,zm 24 8,zi 25 3 23 24,zf 26 0 25,zl 27 26,zm 28 2,zg 29 Fn.q69 [.t 27,.t 28],zm 30 29,gz 30 false 31 .mv [.t 1],gz 30 false 32 .mv [.t 8],gz 30 false 33 (.iadr 3) [.t 31,.t 32],gz 30 false 34 (.fadr 1) [.t 33],gz 30 false 35 (.ld 1 false) [.t 34],gz 30 false 36 .mv [.t 2],gz 30 false 37 (.call Fn.q69) [.t 35,.t 36],iz 38 .pick [.t 30,.c (.bool true),.t 37]])
 (.ite (.t 38)
  (.seq (.reg [kz 6 .mv [.c (.int .i64 2)],kz 7 .mv [.c (.bool true)]])
  .ret)
  .skip)))
 (.reg [zm 21 8,zc 22 .add 21 1,zM 8 22])))
def Mc.q55:MC:=(.seq (.reg [kz 3 .box [.t 0],kz 6 .mv [.c (.int .i64 0)],kz 7 .mv [.c (.bool false)]])
 (.seq (.seq (.reg [zf 9 0 3,zl 10 9,zm 11 2,zg 12 Fn.q69 [.t 10,.t 11]])
 (.ite (.t 12)
  (.seq (.reg [kz 6 .mv [.c (.int .i64 0)],kz 7 .mv [.c (.bool true)]])
  .ret)
  .skip))
 (.seq (.seq (.reg [zf 13 1 3,zl 14 13,zm 15 2,zg 16 Fn.q69 [.t 14,.t 15]])
 (.ite (.t 16)
  (.seq (.reg [kz 6 .mv [.c (.int .i64 1)],kz 7 .mv [.c (.bool true)]])
  .ret)
  .skip))
 (.seq (.seq (.reg [kz 8 .mv [.c (.int .i64 0)]])
 (.blk 0 (.loop [] Mc.q55_L0)))
 (.seq (.reg [kz 6 .mv [.c (.int .i64 0)],kz 7 .mv [.c (.bool false)]])
 .ret)))))
def Ks.q12:List Nat:=[0,1,4,5,7,8]
def Rs.q12:List RV:=[.tmp 4]
def Dl.q12:List (List Nat):=[[5]]
def Mc.q12_L0:MC:=(.seq (.reg [zb 9 .lss 8 7])
 (.seq (.ite (.t 9)
  .skip
  (.exit 0))
 (.seq (.blk 1 (.seq (.reg [zm 10 8,zM 5 10])
 (.seq (.reg [zm 11 1,zm 12 0,zm 13 5,zi 14 3 12 13,zL 15 3 14,iz 16 .callv [.t 11,.t 15]])
 (.ite (.t 16)
  (.seq (.reg [zm 17 5,zM 4 17])
  .ret)
  .skip))))
 (.reg [zc 18 .add 8 1,zM 8 18]))))
def Mc.q12:MC:=(.seq (.reg [kz 4 .mv [.c (.int .i64 0)]])
 (.seq (.seq (.reg [zm 6 0,kz 7 (.len 1) [.t 6],kz 8 .mv [.c (.int .i64 0)]])
 (.blk 0 (.loop [5] Mc.q12_L0)))
 (.seq (.reg [kz 4 .mv [.c (.int .i64 (-1))]])
 .ret)))
def Ks.q51:List Nat:=[0,1,3,4]
def Rs.q51:List RV:=[.tmp 4]
def Dl.q51:List (List Nat):=[]
def Mc.q51:MC:=(.seq (.reg [kz 3 .box [.t 1],kz 4 .mv [.c (.bool false)]])
 (.seq (.reg [zm 5 0,iz 6 (.mkfn Fn.q46) [.t 3],zg 7 Fn.q14 [.t 5,.t 6],zM 4 7])
 .ret))
def Ks.q54:List Nat:=[0,1,2,3]
def Rs.q54:List RV:=[.tmp 3]
def Dl.q54:List (List Nat):=[]
def Mc.q54:MC:=(.seq (.reg [kz 2 .box [.t 0],kz 3 .mv [.c (.bool false)]])
 (.seq (.reg [zf 4 0 2,zl 5 4,zl 6 1,zg 7 Fn.q51 [.t 5,.t 6],zm 8 7,gz 8 false 9 (.fadr 1) [.t 2],gz 8 false 10 (.ld 1 false) [.t 9],gz 8 false 11 (.ld 1 false) [.t 1],gz 8 false 12 (.call Fn.q51) [.t 10,.t 11],iz 13 .pick [.t 8,.c (.bool true),.t 12],zM 3 13])
 .ret))
def Ks.q69:List Nat:=[0,1,4,5]
def Rs.q69:List RV:=[.tmp 4]
def Dl.q69:List (List Nat):=[[]]
def Mc.q69_L0:MC:=(.seq (.seq (.reg [zm 6 5,zm 7 0,zn 8 1 7,zb 9 .lss 6 8])
 (.ite (.t 9)
  .skip
  (.exit 0)))
 (.seq (.blk 1 (.seq (.reg [zm 12 0,zm 13 5,zi 14 3 12 13,zf 15 0 14,zl 16 15,zm 17 1,zb 18 .eql 16 17])
 (.ite (.t 18)
  (.seq (.reg [kz 4 .mv [.c (.bool true)]])
  .ret)
  .skip)))
 (.reg [zm 10 5,zc 11 .add 10 1,zM 5 11])))
def Mc.q69:MC:=(.seq (.reg [kz 4 .mv [.c (.bool false)]])
 (.seq (.seq (.reg [kz 5 .mv [.c (.int .i64 0)]])
 (.blk 0 (.loop [] Mc.q69_L0)))
 (.seq (.reg [kz 4 .mv [.c (.bool false)]])
 .ret)))
def Ks.q46:List Nat:=[0,1,2,3]
def Rs.q46:List RV:=[.tmp 3]
def Dl.q46:List (List Nat):=[]
def Mc.q46:MC:=(.seq (.reg [kz 2 .box [.t 0],kz 3 .mv [.c (.bool false)]])
 (.seq (.reg [zf 4 0 2,zl 5 4,zl 6 1,zb 7 .eql 5 6,zM 3 7])
 .ret))
end Go.Proofs.YtpefhfiehfkocaaGreatDoor
namespace Go.Proofs.YtpefhfiehfkocaaGreatDoor
open Go.RowKit Go.IntWalk
theorem idxf_loop_slices_IndexFunc___api_Origin_api_Origin_(G:Gam)(h:Heap)(rows:List (List AV))(f:FuncId)(caps:List AV)(hb:rows.length≤big):∀ (rest:List (List AV)) (i:Nat) (v:Int),rows.drop i=rest→findA (fun row=>if row.length=3 then (mkVal true 3 row).bind (ask G h f caps)else none) i rest=some v→
  headM G [5] Mc.q12_L0 h.length [.blk 0,.seq (.seq (.reg [kz 4 .mv [.c (.int .i64 (-1))]]) .ret)] (lookQ Rs.q12 (.int .i64 v) h)
  [(0,.sl rows),(1,.fn f caps),(4,.int .i64 0),(5,.junk),(7,.int .i64 rows.length),(8,.int .i64 i)] h
 | [],i,v,hd,hv=>by
  have hi:=drop_nil hd;have hi':¬ (i:Int)<rows.length:=by omega
  simp only [findA,Option.some.injEq]at hv; subst hv;refine head_go (Mc.q12_L0.eq_1) ?_
  simp [ltB,hi',lookQ,Rs.q12,owns,freezeAll]
 | x::rest,i,v,hd,hv=>by
  obtain ⟨hi,hx,hxd⟩:=drop_cons hd;have hi':(i:Int)<rows.length:=by omega
  have hw:=wrap1 (i:=i) (by omega);by_cases hl:x.length=3
  ·simp only [findA,hl,if_true]at hv
   cases hm:mkVal true 3 x with
   | none=>simp [hm]at hv
   | some a=>
    simp only [hm,Option.bind_some]at hv;have hcut:mkVal true 3 (cut x 0 3)=some a:=by rw [cut_all hl]; exact hm
    cases ha:ask G h f caps a with
    | none=>simp [ha]at hv
    | some b=>
     have hc:=ask_call ha;simp only [ha]at hv;refine head_go (Mc.q12_L0.eq_1) ?_
     cases b with
     | true=>
      simp only [Option.some.injEq]at hv; subst hv;simp [ltB,hi',iadr_sl hx hl,hcut,hc,lookQ,Rs.q12,owns,freezeAll]
     | false=>
      simp [ltB,hi',iadr_sl hx hl,hcut,hc,hw];refine head_of ?_
      have ih:=idxf_loop_slices_IndexFunc___api_Origin_api_Origin_ G h rows f caps hb rest (i+1) v hxd hv;simpa using ih
  ·simp [findA,hl]at hv
theorem idxf_ok_slices_IndexFunc___api_Origin_api_Origin_(G:Gam):∀ args h r,F_IndexFunc true 3 G args h=some r→wpM G Mc.q12 (lookQ Rs.q12 r h) [] (frInit Ks.q12 args) h:=by
 intro args h r hF
 obtain ⟨rows,f,caps,v,rfl,hb,hv,rfl⟩:=F_IndexFunc_inv hF
 rw [wpM_go]
 have ih:=idxf_loop_slices_IndexFunc___api_Origin_api_Origin_ G h rows f caps hb rows 0 v rfl hv
 simpa [Mc.q12,frInit,Ks.q12] using ih
theorem contf_ok_slices_ContainsFunc___api_Origin_api_Origin_(G G0:Gam)(hG:G Fn.q12=some (.gen (lookF (F_IndexFunc true 3 G0)))):∀ args h r,F_ContainsFunc true 3 G0 args h=some r→wpM G Mc.q9 (lookQ Rs.q9 r h) [] (frInit Ks.q9 args) h:=by
 intro args h r hF
 obtain ⟨rows,f,caps,v,rfl,hb,hv,rfl⟩:=F_ContainsFunc_inv hF
 rw [wpM_go]
 have hc:∀ h0:Heap,h0=h→opV G false h0 (.call Fn.q12) (some [.sl rows,.fn f caps])=some (.int .i64 v,h0):=fun h0 e=>by subst e; rw [op_call_gen hG]; simp [lookF,F_IndexFunc,hb,hv]
 simp [Mc.q9,frInit,Ks.q9,hc,lookQ,Rs.q9,owns,freezeAll]
end Go.Proofs.YtpefhfiehfkocaaGreatDoor
namespace Go.Proofs.YtpefhfiehfkocaaGreatDoor
open Go.RowKit Go.IntWalk
theorem head_ofI{G:Gam}{ks:List MK}{Q:MPost}{fr:List (Nat×AV)}{h:Heap}{d:List Nat}{a:MC}{n:Nat}(hq:headM G d a n ks Q (junkAll d fr) h)(hd:d.contains 999999=true:=by rfl):headM G d a n ks Q fr h:=by
 obtain ⟨N,hr⟩:=hq
 refine ⟨N,?_⟩
 cases N with
 | zero=>exact hr
 | succ N=>
  simp only [roundsM]at hr ⊢;simp only [truncD,hd,if_true]at hr ⊢;rw [junkAll_idem]at hr;exact hr
def pkRow(nm v rc:Bs)(fs:List PD):List AV:=[.str nm,.str v,.str rc,.sl (fs.map rowPD)]
def srcGo(j:Nat)(g:Heap)(pr:List AV):Heap:=if j=0 then g++[.cells pr]else g
def srcAt(nm:Bs)(pr:List AV)(fs:List PD)(j:Nat)(h:Heap):Option (List AV)×Heap:=match fs[j]? with
 | some f=>(some [.agg [.str (nm++[47]++f.1),.str f.2]],srcGo j h pr++[.cells (rowPD f)])
 | none=>(none,h)
def ckP(h:Heap)(n:Nat)(pr:List AV):Bool:=match h[n]? with
 | some b=>blkEq b (.cells pr)
 | none=>false
def F_srcIt:ItF:=fun caps h0 j h=>match caps with
 | [.ptr l 0]=>match h0[l]? with
  | some (.cellsT _ [.sl [[.str nm,.str v,.str rc,.sl T]]])=>match decPD T with
   | some (f::fs)=>if fs.length≤1000∧((f::fs).all fun f=>decide (nm.length+f.1.length≤100000))=true∧(j=0∨ckP h h0.length [.str nm,.str v,.str rc,.sl T]=true)then some (srcAt nm [.str nm,.str v,.str rc,.sl T] (f::fs) j h)else none
   | _=>none
  | _=>none
 | _=>none
theorem src_inv{caps:List AV}{h0 h:Heap}{j:Nat}{r:Option (List AV)×Heap}(he:F_srcIt caps h0 j h=some r):∃ l tg nm v rc fs,caps=[.ptr l 0]∧h0[l]?=some (.cellsT tg [.sl [pkRow nm v rc fs]])∧fs≠[]∧fs.length≤1001∧(∀ f∈fs,nm.length+f.1.length≤100000)∧(j=0∨h[h0.length]?=some (.cells (pkRow nm v rc fs)))∧r=srcAt nm (pkRow nm v rc fs) fs j h:=by
 unfold F_srcIt at he
 split at he
 ·rename_i l
  split at he
  ·rename_i tg nm v rc T h1
   split at he
   ·rename_i f fs hd
    split at he
    ·rename_i hc
     injection he with he
     have hT:=decPD_ed hd;subst hT;refine ⟨l,tg,nm,v,rc,f::fs,rfl,h1,by simp,by simp; omega,fun x hx=>by simpa using List.all_eq_true.1 hc.2.1 x hx,?_,he.symm⟩
     rcases hc.2.2 with h2 | h2
     ·exact .inl h2
     ·right
      unfold ckP at h2;split at h2
      ·rename_i b hb
       rw [hb,blkEq_eq _ _ h2]; rfl
      ·cases h2
    ·cases he
   ·cases he
  ·cases he
 ·cases he
theorem src_fix{h0 h:Heap}{l j:Nat}{tg:Option TypeId}{nm v rc:Bs}{fs:List PD}{r:Option (List AV)×Heap}(h1:h0[l]?=some (.cellsT tg [.sl [pkRow nm v rc fs]]))(he:F_srcIt [.ptr l 0] h0 j h=some r) :
  fs≠[]∧fs.length≤1001∧(∀ f∈fs,nm.length+f.1.length≤100000)∧(j=0∨h[h0.length]?=some (.cells (pkRow nm v rc fs)))∧r=srcAt nm (pkRow nm v rc fs) fs j h:=by
 obtain ⟨l',tg',nm',v',rc',fs',e1,e2,e3,e4,ea,e5,e6⟩:=src_inv he
 injection e1 with e1 _; injection e1 with e1 _; subst e1
 rw [h1]at e2
 injection e2 with e2; injection e2 with _ e2; injection e2 with e2 _; injection e2 with e2; injection e2 with e2 _
 unfold pkRow at e2
 injection e2 with a1 e2; injection e2 with a2 e2; injection e2 with a3 e2; injection e2 with a4 _
 injection a1 with a1; injection a2 with a2; injection a3 with a3; injection a4 with a4
 subst a1 a2 a3
 have a5:fs=fs':=by
  have q:=decPD_de fs;rw [a4,decPD_de]at q;injection q with q; exact q.symm
 subst a5
 exact ⟨e3,e4,ea,e5,e6⟩
abbrev sfr(k l _:Nat)(x4 _:AV)(nm v rc:Bs)(fs:List PD)(x14 x15 x16:AV)(i:Int):List (Nat×AV):=[(0,.yld k),(1,.ptr l 0),(4,x4),(6,.junk),(7,.sl [pkRow nm v rc fs]),(8,.int .i64 1),(9,.int .i64 i),(14,x14),(15,x15),(16,x16)]
theorem st2_new{h:Heap}{f:PD}:stAV 2 (h++[.cells [.str [],.str []]]) (.ptr h.length 0) (.agg (rowPD f))=some (h++[.cells (rowPD f)]):=by
 have:=st_all (h:=h++[Blk.cells [.str [],.str []]]) (l:=h.length) (n:=2) (vs:=[.str [],.str []]) (us:=rowPD f) (by simp) rfl rfl (by omega) rfl
 simpa [-stAV_ptr] using this
theorem st4_new{h:Heap}{nm v rc:Bs}{fs:List PD}:stAV 4 (h++[.cells [.str [],.str [],.str [],.nils]]) (.ptr h.length 0) (.agg (pkRow nm v rc fs))=some (h++[.cells (pkRow nm v rc fs)]):=by
 have:=st_all (h:=h++[Blk.cells [.str [],.str [],.str [],.nils]]) (l:=h.length) (n:=4) (vs:=[.str [],.str [],.str [],.nils]) (us:=pkRow nm v rc fs) (by simp) rfl rfl (by omega) rfl
 simpa [-stAV_ptr] using this
theorem src_L1(G:Gam)(Y:Nat→List AV→Heap→Option (AV×Heap))(k l:Nat)(tg:Option TypeId)(nm v rc:Bs)(fs:List PD)(h0 h':Heap)(e1:h0[l]?=some (.cellsT tg [.sl [pkRow nm v rc fs]]))(n:Nat)(ks:List MK)(Q:MPost)
  (hQ:∀ env fr,Q .ret env fr h')
  (hk:∀ env,exM { G with y:=Y } .normal ks Q env (sfr k l h0.length (.ptr h0.length 0) .junk nm v rc fs (.sl (fs.map rowPD)) (.int .i64 fs.length) (.int .i64 fs.length) 0) h') :
  ∀ (N j:Nat) (g0 g:Heap),j≤fs.length→g=srcGo j g0 (pkRow nm v rc fs)→(j=0→g0=h0)→runYN (F_srcIt [.ptr l 0] h0) (Y k) N j g0 h'→
  headM { G with y:=Y } [6,999999] Mc.q50_L1 n (.blk 2::ks) Q (sfr k l h0.length (.ptr h0.length 0) .junk nm v rc fs (.sl (fs.map rowPD)) (.int .i64 fs.length) (.int .i64 j) 0) g
 | 0,_,_,_,_,_,_,hr=>hr.elim
 | N+1,j,g0,g,hj,hg,hz,hr=>by
  simp only [runYN]at hr;split at hr
  ·exact hr.elim
  ·rename_i h1 hF
   obtain ⟨c1,c2,ca,c3,c4⟩:=src_fix e1 hF;subst hr;cases hf:fs[j]? with
   | some f=>simp [srcAt,hf]at c4
   | none=>
    simp only [srcAt,hf,Prod.mk.injEq]at c4;have hje:j=fs.length:=by have:=List.getElem?_eq_none_iff.1 hf; omega
    have hj0:j≠0:=by rw [hje]; intro h; exact c1 (List.length_eq_zero_iff.1 h)
    have hg2:g=h':=by rw [hg]; unfold srcGo; rw [if_neg hj0,c4.2]
    have q:ltB (j:Int) (fs.length:Int)=false:=ltB_not.2 (by omega);subst hg2;subst hje;refine head_goN (Mc.q50_L1.eq_1) ?_
    simp;simpa using hk _
  ·rename_i x h1 hF
   obtain ⟨c1,c2,ca,c3,c4⟩:=src_fix e1 hF;cases hf:fs[j]? with
   | none=>simp [srcAt,hf]at c4
   | some f=>
    simp only [srcAt,hf,Prod.mk.injEq,Option.some.injEq]at c4;obtain ⟨rfl,rfl⟩:=c4;have hlt:j<fs.length:=(List.getElem?_eq_some_iff.1 hf).1;have hp:g[h0.length]?=some (.cells (pkRow nm v rc fs)):=by
     rw [hg]; unfold srcGo;by_cases h:j=0
     ·rw [if_pos h,hz h]; simp
     ·rw [if_neg h]; exact c3.resolve_left h
    rw [← hg]at hr;have hpl:h0.length<g.length:=(List.getElem?_eq_some_iff.1 hp).1;have hp2:(g++[Blk.cells (rowPD f)])[h0.length]?=some (.cells (pkRow nm v rc fs)):=by rw [List.getElem?_append_left hpl]; exact hp
    have q:ltB (j:Int) (fs.length:Int)=true:=ltB_iff.2 (by omega);have hw:=wrap1 (i:=j) (by unfold big; omega);have r1:(fs.map rowPD)[j]?=some (rowPD f):=by simp [hf]
    have ia:∀ h,iadrAV 2 h (.sl (fs.map rowPD)) (.int .i64 (j:Int))=some (.fptr (rowPD f) 0):=fun h=>by
     have:(rowPD f).length=2:=rfl;simp [iadrAV,r1,this]
    have l1:∀ h,loadAV 2 true h (.fptr (rowPD f) 0)=some (.agg (rowPD f)):=fun h=>by simp [loadAV,cut,mkVal,rowPD]
    have sn:=st2_new (h:=g) (f:=f);have cf:=ca f (List.mem_of_getElem? hf);have s1:binAV .add (.str nm) (.str [47])=some (.str (nm++[47])):=str_add (by unfold strMax; simp; omega);have s2:binAV .add (.str (nm++[47])) (.str f.1)=some (.str (nm++[47]++f.1)):=str_add (by unfold strMax; simp; omega);generalize nm++[47]=nm1 at s1 s2 hr;generalize hnm2:nm1++f.1=nm2 at s2 hr;have ln:loadAV 1 false (g++[Blk.cells (rowPD f)]) (.ptr h0.length 0)=some (.str nm):=ld_cell hp2 rfl;have lp:loadAV 1 false (g++[Blk.cells (rowPD f)]) (.ptr g.length 0)=some (.str f.1):=ld_cell (l:=g.length) (vs:=rowPD f) (by simp) rfl;have ld:loadAV 1 false (g++[Blk.cells (rowPD f)]) (.ptr g.length 1)=some (.str f.2):=ld_cell (l:=g.length) (vs:=rowPD f) (by simp) rfl;have bd:∀ st h (a b:Bs),opV { G with y:=Y } st h (.bld [.str [],.str []] [(0,1),(1,1)]) (some [.str a,.str b])=some (.agg [.str a,.str b],h):=fun st h a b=>by rw [opV_quiet rfl]; rfl
    have hg3:∀ g2:Heap,g2=srcGo (j+1) g2 (pkRow nm v rc fs):=fun g2=>by unfold srcGo; rw [if_neg (by omega)]
    generalize g++[Blk.cells (rowPD f)]=g1 at hr sn ln lp ld;have hy:opV { G with y:=Y } false g1 .callv (some [.yld k,.agg [.str nm2,.str f.2]])=Y k [.agg [.str nm2,.str f.2]] g1:=op_yld;refine head_goN (Mc.q50_L1.eq_1) ?_
    generalize rowPD f=rf at *;split at hr
    ·rename_i h2 hY
     rw [hY]at hy;have ih:=src_L1 G Y k l tg nm v rc fs h0 h' e1 n ks Q hQ hk N (j+1) h2 h2 (by omega) (hg3 h2) (fun h=>by omega) hr;simp [q,ia,l1,sn,ln,lp,ld,hy,hw,s1,s2,bd,-loadAV,-stAV_ptr];refine head_ofI ?_
     simpa using ih
    ·rename_i h2 hY
     rw [hY]at hy;subst hr;simp [q,ia,l1,sn,ln,lp,ld,hy,s1,s2,bd,-loadAV,-stAV_ptr];exact hQ _ _
    ·exact hr.elim
theorem src_ok(G:Gam):∀ (Y:Nat→List AV→Heap→Option (AV×Heap)) (caps:List AV) (k N:Nat) (h h':Heap),runYN (F_srcIt caps h) (Y k) N 0 h h'→wpM { G with y:=Y } Mc.q50 (itQ h') [] (frInit Ks.q50 (.yld k::caps)) h:=by
 intro Y caps k N h h' hr
 obtain ⟨l,tg,nm,v,rc,fs,rfl,e1⟩:∃ l tg nm v rc fs,caps=[.ptr l 0]∧h[l]?=some (.cellsT tg [.sl [pkRow nm v rc fs]]):=by
  cases N with
  | zero=>exact hr.elim
  | succ N=>
   simp only [runYN]at hr;split at hr
   ·exact hr.elim
   ·rename_i h1 hF
    obtain ⟨l,tg,nm,v,rc,fs,g1,g2,_⟩:=src_inv hF;exact ⟨l,tg,nm,v,rc,fs,g1,g2⟩
   ·rename_i x h1 hF
    obtain ⟨l,tg,nm,v,rc,fs,g1,g2,_⟩:=src_inv hF;exact ⟨l,tg,nm,v,rc,fs,g1,g2⟩
 have ld1:loadAV 1 false h (.ptr l 0)=some (.sl [pkRow nm v rc fs]):=by simp [loadAV,e1,cut,mkVal]
 have ia:∀ h,iadrAV 4 h (.sl [pkRow nm v rc fs]) (.int .i64 0)=some (.fptr (pkRow nm v rc fs) 0):=fun h=>by
  have:(pkRow nm v rc fs).length=4:=rfl;simp [iadrAV,this]
 have l1:∀ h,loadAV 4 true h (.fptr (pkRow nm v rc fs) 0)=some (.agg (pkRow nm v rc fs)):=fun h=>by simp [loadAV,cut,mkVal,pkRow]
 have sn:=st4_new (h:=h) (nm:=nm) (v:=v) (rc:=rc) (fs:=fs)
 have lt:loadAV 1 false (h++[Blk.cells (pkRow nm v rc fs)]) (.ptr h.length 3)=some (.sl (fs.map rowPD)):=ld_cell (l:=h.length) (vs:=pkRow nm v rc fs) (by simp) rfl
 have ll:lenAV (h++[Blk.cells (pkRow nm v rc fs)]) 1 (.sl (fs.map rowPD))=some (.int .i64 (fs.length:Int)):=by simp [lenAV]
 have L1:=fun n ks Q hQ hk=>src_L1 G Y k l tg nm v rc fs h h' e1 n ks Q hQ hk N 0 h (h++[Blk.cells (pkRow nm v rc fs)]) (Nat.zero_le _) (by simp [srcGo]) (fun _=>rfl) hr
 rw [wpM_go]
 simp [Mc.q50,frInit,Ks.q50,ld1,-loadAV]
 refine head_goN (Mc.q50_L0.eq_1) ?_
 have q01:ltB 0 1=true:=rfl
 have q11:ltB 1 1=false:=rfl
 simp [q01,ia,l1,sn,lt,ll,-loadAV,-stAV_ptr,-lenAV]
 refine L1 _ _ _ (fun env fr=>⟨trivial,rfl⟩) (fun env=>?_)
 simp
 refine head_ofI ?_
 refine head_goN (Mc.q50_L0.eq_1) ?_
 have w1:IntKind.i64.wrap 1=1:=by decide
 simp [w1,itQ]
def ckM(h:Heap)(n m:Nat):Bool:=match h[n]?,h[m]? with
 | some (.mit (some m') n' seen last),some (.map es)=>decide (m'=m∧n'=1∧seen=[0]∧last=1∧es.length=1)
 | _,_=>false
def F_keyIt:ItF:=fun caps h0 j h=>match caps with
 | [.ptr q 0]=>match h0[q]? with
  | some (.cellsT _ [.map m])=>match h0[m]? with
   | some (.map [(a,_)])=>match j with
    | 0=>some (some [a],h++[.mit (some m) 1 [0] 1])
    | 1=>if ckM h h0.length m=true then some (none,h.set h0.length .dead)else none
    | _=>none
   | _=>none
  | _=>none
 | _=>none
theorem ckM_of{h:Heap}{n m:Nat}(hc:ckM h n m=true):h[n]?=some (.mit (some m) 1 [0] 1)∧∃ es:List (AV×AV),h[m]?=some (.map es)∧es.length=1:=by
 unfold ckM at hc
 split at hc
 ·rename_i m' n' seen last es h1 h2
  simp only [decide_eq_true_eq]at hc;obtain ⟨rfl,rfl,rfl,rfl,h3⟩:=hc;exact ⟨h1,es,h2,h3⟩
 ·cases hc
theorem keys_ok(G:Gam):∀ (Y:Nat→List AV→Heap→Option (AV×Heap)) (caps:List AV) (k N:Nat) (h h':Heap),runYN (F_keyIt caps h) (Y k) N 0 h h'→wpM { G with y:=Y } Mc.q13 (itQ h') [] (frInit Ks.q13 (.yld k::caps)) h:=by
 intro Y caps k N h h' hr
 obtain ⟨q,tg,m,a,b',rfl,e1,e2⟩:∃ q tg m a b',caps=[.ptr q 0]∧h[q]?=some (.cellsT tg [.map m])∧h[m]?=some (.map [(a,b')]):=by
  cases N with
  | zero=>exact hr.elim
  | succ N=>
   simp only [runYN]at hr;have key:∀ r,F_keyIt caps h 0 h=some r→∃ q tg m a b',caps=[.ptr q 0]∧h[q]?=some (.cellsT tg [.map m])∧h[m]?=some (.map [(a,b')]):=fun r hF=>by
    unfold F_keyIt at hF;split at hF
    ·split at hF
     ·split at hF
      ·rename_i q _ tg m h1 _ a b h2
       exact ⟨q,tg,m,a,b,rfl,h1,h2⟩
      ·cases hF
     ·cases hF
    ·cases hF
   split at hr
   ·exact hr.elim
   ·rename_i h1 hF; exact key _ hF
   ·rename_i x h1 hF; exact key _ hF
 have hml:m<h.length:=(List.getElem?_eq_some_iff.1 e2).1
 have hF:∀ j g,F_keyIt [.ptr q 0] h j g=match j with
   | 0=>some (some [a],g++[.mit (some m) 1 [0] 1])
   | 1=>if ckM g h.length m=true then some (none,g.set h.length .dead)else none
   | _=>none:=fun j g=>by
  simp only [F_keyIt,e1,e2]
 have ld1:loadAV 1 false h (.ptr q 0)=some (.map m):=by simp [loadAV,e1,cut,mkVal]
 have hr0:=op_rngm (G:={ G with y:=Y }) e2
 have g1:∀ b:Blk,(h++[b])[h.length]?=some b:=fun b=>by simp
 have g2:∀ b:Blk,(h++[b])[m]?=some (.map [(a,b')]):=fun b=>by rw [List.getElem?_append_left hml]; exact e2
 have m0:mnxAV (h++[.mit (some m) 1 [] 1]) h.length=some [(.tup [.bool true,a,b'],h++[.mit (some m) 1 [0] 1])]:=by
  unfold mnxAV;rw [g1];simp only [g2];simp
 have n0:entAV (h++[.mit (some m) 1 [0] 1]) h.length=some (.tup [a,b']):=by
  unfold entAV;rw [g1];simp only [g2];simp
 cases N with
 | zero=>exact hr.elim
 | succ N=>
 simp only [runYN,hF]at hr
 rw [wpM_go]
 simp only [List.length_cons,List.length_nil,Nat.zero_add]at hr0
 simp [Mc.q13,frInit,Ks.q13,ld1,hr0,-loadAV]
 refine head_goN (Mc.q13_L0.eq_1) ?_
 rw [go_seq,go_rgn]
 show altM _ (some 6) false _ _ _ _ (mnxAV _ h.length)
 rw [m0]
 intro r hr'
 rcases List.mem_singleton.1 hr' with rfl
 generalize h++[Blk.mit (some m) 1 [0] 1]=h1 at hr n0
 have hy:opV { G with y:=Y } false h1 .callv (some [.yld k,a])=Y k [a] h1:=op_yld
 split at hr
 ·rename_i h2 hY
  rw [hY]at hy;cases N with
  | zero=>exact hr.elim
  | succ N=>
  simp only [runYN,hF]at hr;split at hr
  ·exact hr.elim
  ·rename_i h3 hc
   split at hc
   ·rename_i hck
    simp only [Option.some.injEq,Prod.mk.injEq,true_and]at hc;subst hc;obtain ⟨c1,es,c2,c3⟩:=ckM_of hck;have m1:mnxAV h2 h.length=some [(.tup [.bool false],h2.set h.length .dead)]:=by
     unfold mnxAV;rw [c1];simp only [c2,c3];simp
    simp [n0,hy];refine head_ofI ?_
    refine head_goN (Mc.q13_L0.eq_1) ?_
    rw [go_seq,go_rgn];show altM _ (some 6) false _ _ _ _ (mnxAV _ h.length)
    rw [m1];intro r hr';rcases List.mem_singleton.1 hr' with rfl
    simp [itQ,hr]
   ·cases hc
  ·rename_i x h3 hc
   split at hc
   ·simp at hc
   ·cases hc
 ·rename_i h2 hY
  rw [hY]at hy;subst hr;simp [n0,hy,itQ]
 ·exact hr.elim
end Go.Proofs.YtpefhfiehfkocaaGreatDoor
