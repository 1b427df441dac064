/- build.Sandbox.all,visible: resolved,by program (Gen.lean). build.Sandbox.visible: what it says of a path; it looks at the sandbox alone. build.Sandbox.all: the files that are wanted,in the order of -/
import Derived.Test.YtpefhfiehfkocaaGreatDoorRecIds
import Derived.Test.YtpefhfiehfkocaaGreatDoorRmJ
import Derived.Test.YtpefhfiehfkocaaGreatDoorAm10
import Derived.Test.YtpefhfiehfkocaaGreatDoorRmD
import Derived.Test.YtpefhfiehfkocaaGreatDoorAm11
namespace Go.Proofs.YtpefhfiehfkocaaGreatDoor
def Ks.q47:List Nat:=[0,1,4,5,6,7,12]
def Rs.q47:List RV:=[.tmp 4]
def Dl.q47:List (List Nat):=[[6,7]]
def Mc.q47_L0:MC:=(.seq (.rgn (.t 12) (some 13) false [ze 14 0 13])
 (.seq (.ite (.t 14)
  .skip
  (.exit 0))
 (.blk 1 (.seq (.reg [iz 15 .ent [.t 12],ze 16 0 15,ze 17 1 15,zM 6 16,zM 7 17])
 (.seq (.reg [zm 18 1,zm 19 6,iz 20 .callv [.t 18,.t 19]])
 (.ite (.t 20)
  (.reg [zm 21 5,zm 22 6,zm 23 7,iz 24 (.bld [.str [],.str []] [(0,1),(1,1)]) [.t 22,.t 23],iz 25 (.bsl false 2) [.t 24],iz 26 (.app false 2 32) [.t 21,.t 25],zM 5 26])
  .skip))))))
def Mc.q47:MC:=(.seq (.reg [kz 4 (.newnil 2) []])
 (.seq (.reg [kz 5 (.newnil 2) []])
 (.seq (.seq (.reg [zm 8 0,iz 9 .nilck [.t 8],zf 10 1 9,zl 11 10,kz 12 .rngm [.t 11]])
 (.blk 0 (.loop [6,7] Mc.q47_L0)))
 (.seq (.reg [zm 27 5,zg 28 Fn.q24 [.t 27,.c (.fn Fn.q41 [])]])
 (.seq (.reg [zm 29 5,zM 4 29])
 .ret)))))
def Ks.q38:List Nat:=[0,1,4]
def Rs.q38:List RV:=[.tmp 4]
def Dl.q38:List (List Nat):=[]
def Mc.q38:MC:=(.seq (.reg [kz 4 .mv [.c (.bool false)]])
 (.seq (.rgd [zm 5 1,zm 6 0,iz 7 .nilck [.t 6],zf 8 0 7,zl 9 8,zm 10 0,iz 11 .nilck [.t 10],zf 12 4 11,zl 13 12,zi 14 4 9 13,zf 15 0 14,zl 16 15,iz 17 (.bin .add) [.t 16,.c (.str [47])],zg 18 Fn.q57 [.t 5,.t 17],zm 19 18,gz 19 false 20 .mv [.t 0],gz 19 false 21 .nilck [.t 20],gz 19 false 22 (.fadr 2) [.t 21],gz 19 false 23 (.ld 1 false) [.t 22],gz 19 false 24 .mv [.t 1],gz 19 false 25 (.call Fn.q28) [.t 23,.t 24],iz 26 .pick [.t 19,.c (.bool true),.t 25],zM 4 26])
 .ret))
def Ks.q37:List Nat:=[2]
def Rs.q37:List RV:=[.tmp 2]
def Dl.q37:List (List Nat):=[]
def Mc.q37:MC:=(.seq (.reg [kz 2 .mv [.c (.bool false)]])
 (.seq (.reg [kz 2 .mv [.c (.bool true)]])
 .ret))
end Go.Proofs.YtpefhfiehfkocaaGreatDoor
namespace Go.Proofs.YtpefhfiehfkocaaGreatDoor
open Go.RowKit Go.IntWalk
theorem get_more{h t:Heap}{l:Nat}{b:Blk}(hb:h[l]?=some b):(h++t)[l]?=some b:=by
 rw [List.getElem?_append_left (List.getElem?_eq_some_iff.1 hb).1]; exact hb
theorem load_more{size:Nat}{agg:Bool}{h t:Heap}{a v:AV}(hl:loadAV size agg h a=some v):loadAV size agg (h++t) a=some v:=by
 cases a with
 | ptr l off=>
  simp only [loadAV]at hl ⊢;split at hl
  ·rename_i vs hx; rw [get_more hx]; exact hl
  ·cases hl
 | eptr l ver i off=>
  simp only [loadAV]at hl ⊢;split at hl
  ·rename_i ne tg sz ver' rows wr hx; rw [get_more hx]; exact hl
  ·cases hl
 | fptr row off=>exact hl
 | _=>simp [loadAV]at hl
theorem iadr_more{size:Nat}{h t:Heap}{x i v:AV}(hl:iadrAV size h x i=some v):iadrAV size (h++t) x i=some v:=by
 unfold iadrAV at hl ⊢
 split at hl
 ·exact hl
 ·exact hl
 ·split at hl
  ·rename_i hx; rw [get_more hx]; exact hl
  ·cases hl
 ·cases hl
theorem rowsOf_more{h t:Heap}{x:AV}{rows:List (List AV)}(hl:rowsOf h x=some rows):rowsOf (h++t) x=some rows:=by
 unfold rowsOf at hl ⊢
 split at hl
 ·exact hl
 ·exact hl
 ·exact hl
 ·split at hl
  ·rename_i hx; rw [get_more hx]; exact hl
  ·cases hl
 ·cases hl
theorem iadr_shape{size:Nat}{h:Heap}{x i e:AV}(hl:iadrAV size h x i=some e):(∃ row,e=.fptr row 0)∨∃ l v j,e=.eptr l v j 0:=by
 unfold iadrAV at hl
 split at hl
 ·split at hl
  ·split at hl
   ·split at hl
    ·injection hl with hl; exact .inl ⟨_,hl.symm⟩
    ·cases hl
   ·cases hl
  ·cases hl
 ·split at hl
  ·split at hl
   ·split at hl
    ·injection hl with hl; exact .inl ⟨_,hl.symm⟩
    ·cases hl
   ·cases hl
  ·cases hl
 ·split at hl
  ·split at hl
   ·split at hl
    ·split at hl
     ·injection hl with hl; exact .inr ⟨_,_,_,hl.symm⟩
     ·cases hl
    ·cases hl
   ·cases hl
  ·cases hl
 ·cases hl
def seenRows(h:Heap)(x:AV):Option (List (List AV)):=match x with
 | .sl rows=>some rows
 | .tsl rows=>some rows
 | .nils=>some []
 | .own l v n=>rowsOf h (.own l v n)
 | _=>none
theorem seenRows_view{h:Heap}{x:AV}{rows:List (List AV)}(hl:seenRows h x=some rows):view h x=some (.sl rows):=by
 unfold seenRows at hl
 split at hl
 ·injection hl with hl; subst hl; rfl
 ·injection hl with hl; subst hl; rfl
 ·injection hl with hl; subst hl; rfl
 ·simp [view,hl]
 ·cases hl
theorem seenRows_more{h t:Heap}{x:AV}{rows:List (List AV)}(hl:seenRows h x=some rows):seenRows (h++t) x=some rows:=by
 unfold seenRows at hl ⊢
 split at hl
 ·exact hl
 ·exact hl
 ·exact hl
 ·exact rowsOf_more hl
 ·cases hl
def F_vis:List AV→Heap→Option AV
 | [.ptr l 0,.str s],h=>match loadAV 1 false h (.ptr l 0),loadAV 1 false h (.ptr l 4),loadAV 1 false h (.ptr l 2)with
  | some pk,some (.int .i64 a),some inst=>(match iadrAV 4 h pk (.int .i64 a),seenRows h inst with
   | some e,some rows=>(match loadAV 1 false h e,F_ContainsS [.sl rows,.str s]with
    | some (.str nm),some (.bool c)=>if nm.length+1≤strMax then some (.bool (Lib.hasPrefix s (nm++[47])||c))else none
    | _,_=>none)
   | _,_=>none)
  | _,_,_=>none
 | _,_=>none
theorem F_vis_inv{args:List AV}{h:Heap}{r:AV}(hF:F_vis args h=some r):∃ l s pk a inst e rows nm c,args=[.ptr l 0,.str s]∧loadAV 1 false h (.ptr l 0)=some pk∧loadAV 1 false h (.ptr l 4)=some (.int .i64 a)∧loadAV 1 false h (.ptr l 2)=some inst∧
  iadrAV 4 h pk (.int .i64 a)=some e∧seenRows h inst=some rows∧loadAV 1 false h e=some (.str nm)∧F_ContainsS [.sl rows,.str s]=some (.bool c)∧nm.length+1≤strMax∧r=.bool (Lib.hasPrefix s (nm++[47])||c):=by
 unfold F_vis at hF
 split at hF
 ·rename_i l s
  split at hF
  ·rename_i pk a inst h1 h2 h3
   split at hF
   ·rename_i e rows h4 h5
    split at hF
    ·rename_i nm c h6 h7
     split at hF
     ·rename_i h8
      injection hF with hF
      exact ⟨l,s,pk,a,inst,e,rows,nm,c,rfl,h1,h2,h3,h4,h5,h6,h7,h8,hF.symm⟩
     ·cases hF
    ·cases hF
   ·cases hF
  ·cases hF
 ·cases hF
theorem F_vis_more{args:List AV}{h t:Heap}{r:AV}(hF:F_vis args h=some r):F_vis args (h++t)=some r:=by
 obtain ⟨l,s,pk,a,inst,e,rows,nm,c,rfl,h1,h2,h3,h4,h5,h6,h7,h8,rfl⟩:=F_vis_inv hF
 simp only [F_vis,load_more h1,load_more h2,load_more h3,iadr_more h4,seenRows_more h5,load_more h6,h7]
 rw [if_pos h8]
@[simp] theorem op_nilck_vis{G:Gam}{s:Bool}{h:Heap}{l off:Nat}:opV G s h .nilck (some [.ptr l off])=some (.ptr l off,h):=by rw [opV_quiet rfl]; rfl
theorem vis_ok{G:Gam}(hP:G Fn.q57=some (.pure F_HasPrefix))(hK:G Fn.q28=some (.pure F_ContainsS)):∀ args h r,F_vis args h=some r→wpM G Mc.q38 (lookQ Rs.q38 r h) [] (frInit Ks.q38 args) h:=by
 intro args h r hF
 obtain ⟨l,s,pk,a,inst,e,rows,nm,c,rfl,h1,h2,h3,h4,h5,h6,h7,h8,rfl⟩:=F_vis_inv hF
 have c1:∀ st,opV G st h (.call Fn.q57) (some [.str s,.str (nm++[47])])=some (.bool (Lib.hasPrefix s (nm++[47])),h):=fun st=>op_call hP (us:=[.str s,.str (nm++[47])]) rfl rfl (.inl rfl)
 have c2:∀ st,opV G st h (.call Fn.q28) (some [inst,.str s])=some (.bool c,h):=fun st=>op_call hK (us:=[.sl rows,.str s]) (by simp [viewL,seenRows_view h5,view]) h7 (.inl rfl)
 have h8':nm.length+[(47:UInt8)].length≤strMax:=h8
 rw [wpM_go]
 cases hp:Lib.hasPrefix s (nm++[47])with
 | true=>
  rw [hp]at c1;rcases iadr_shape h4 with ⟨row,rfl⟩ | ⟨k,v,j,rfl⟩ <;>
   simp [Mc.q38,frInit,Ks.q38,h1,h2,h4,h6,h8,c1,lookQ,Rs.q38,-loadAV]
 | false=>
  rw [hp]at c1;rcases iadr_shape h4 with ⟨row,rfl⟩ | ⟨k,v,j,rfl⟩ <;>
   simp [Mc.q38,frInit,Ks.q38,h1,h2,h3,h4,h6,h8,c1,c2,lookQ,Rs.q38,-loadAV]
end Go.Proofs.YtpefhfiehfkocaaGreatDoor
namespace Go.Proofs.YtpefhfiehfkocaaGreatDoor
open Go.RowKit Go.IntWalk
def likeB(vis r1:FuncId)(h:Heap)(like:AV)(s:Bs):Option Bool:=match like with
 | .fn f []=>if f=r1 then some true else none
 | .mth f x=>if f=vis then (match F_vis [x,.str s] h with
  | some (.bool b)=>some b
  | _=>none)else none
 | _=>none
def F_yes:List AV→Option AV
 | [.str _]=>some (.bool true)
 | _=>none
def AH(h:Heap)(m n:Nat)(ts:List PD)(seen:List Nat)(x:Heap):Heap:=h++(.arr 2 0 [] true::.arr 2 ts.length (ts.map rowPD) true::.mit (some m) n seen n::x)
section
variable {h x:Heap} {m n l:Nat} {ts:List PD} {seen:List Nat} {t:PD} {b:Blk}
theorem AH_get(hb:h[l]?=some b):(AH h m n ts seen x)[l]?=some b:=get_more hb
theorem AH_arr:(AH h m n ts seen x)[h.length+1]?=some (.arr 2 ts.length (ts.map rowPD) true):=by
 unfold AH; rw [List.getElem?_append_right (by simp)]; simp
theorem AH_mit:(AH h m n ts seen x)[h.length+2]?=some (.mit (some m) n seen n):=by
 unfold AH; rw [List.getElem?_append_right (by simp)]; simp
theorem AH_step{s':List Nat}:(AH h m n ts seen x).set (h.length+2) (.mit (some m) n s' n)=AH h m n ts s' x:=by
 unfold AH; rw [List.set_append_right _ _ (by simp)]; simp
theorem AH_app:(AH h m n ts seen x).set (h.length+1) (.arr 2 (ts++[t]).length ((ts++[t]).map rowPD) true)=AH h m n (ts++[t]) seen x:=by
 unfold AH; rw [List.set_append_right _ _ (by simp)]; simp
theorem AH_cut{fr:List (Nat×AV)}(hlow:lowH h.length h=true)(hm:m<h.length)(hf:lowFr (h.length+3) fr=true):trunc (h.length+3) fr (AH h m n ts seen x)=AH h m n ts seen []:=by
 have e:AH h m n ts seen x=AH h m n ts seen []++x:=by simp [AH]
 rw [e]
 refine trunc_low (by simp [AH]) hf ?_
 unfold AH
 refine lowH_app (lowH_up (by omega) hlow) ?_
 simp [lowH,lowB]; omega
theorem AH_mnx{es:List (AV×AV)}(hm:h[m]?=some (.map es))(hn:es.length=n):mnxAV (AH h m n ts seen x) (h.length+2)=(match left n seen with
  | []=>some [(.tup [.bool false],(AH h m n ts seen x).set (h.length+2) .dead)]
  | i::is=>some ((i::is).map fun i=>(.tup [.bool true,(es[i]?.getD (.junk,.junk)).1,(es[i]?.getD (.junk,.junk)).2],AH h m n ts (seen++[i]) x))):=by
 unfold mnxAV
 rw [AH_mit]
 simp only [AH_get hm,hn,and_self,if_true,left]
 split <;> rename_i hl
 ·rw [hl]
 ·rw [hl]; simp only [AH_step]
end
def F_all(vis r1:FuncId):List AV→Heap→Option (AV×Heap)
 | [.ptr l 0,like],h=>match loadAV 1 false h (.ptr l 1)with
  | some (.map m)=>(match h[m]? with
   | some (.map es)=>(match decE es with
    | some ps=>if (ps.all fun p=>(likeB vis r1 h like p.1).isSome)=true∧distP ps=true∧ps.length≤1000∧(ps.filter fun p=>likeB vis r1 h like p.1 == some true)≠[]then
      some (.sl ((sortPD (ps.filter fun p=>likeB vis r1 h like p.1 == some true)).map rowPD),h)else none
    | none=>none)
   | _=>none)
  | _=>none
 | _,_=>none
theorem like_call{G:Gam}{vis r1:FuncId}(hV:G vis=some (.gen (lookF F_vis)))(hR:G r1=some (.pure F_yes)){h t:Heap}{like:AV}{s:Bs}{b:Bool}(hl:likeB vis r1 h like s=some b):opV G false (h++t) .callv (some [like,.str s])=some (.bool b,h++t):=by
 unfold likeB at hl
 split at hl
 ·rename_i f
  split at hl
  ·rename_i hf; subst hf
   injection hl with hl; subst hl
   rw [op_callv];exact call_pure hR (us:=[.str s]) rfl rfl rfl
  ·cases hl
 ·rename_i f x
  split at hl
  ·rename_i hf; subst hf
   split at hl
   ·rename_i b' hv
    injection hl with hl; subst hl
    have:opV G false (h++t) .callv (some [.mth f x,.str s])=callAV G f [x,.str s] (h++t):=by rw [opV_eff rfl]; rfl
    rw [this,call_gen hV];simp only [lookF,F_vis_more hv,Option.map_some]
   ·cases hl
  ·cases hl
 ·cases hl
theorem yes_ok{G:Gam}:∀ args r,F_yes args=some r→wpM G Mc.q37 (pureQ Rs.q37 r) [] (frInit Ks.q37 args) []:=by
 intro args r hF
 unfold F_yes at hF
 split at hF
 ·injection hF with hF; subst hF
  rw [wpM_go];simp [Mc.q37,Ks.q37,frInit,pureQ,Rs.q37]
 ·cases hF
def tailAll:MC:=.seq (.reg [zm 27 5,zg 28 Fn.q24 [.t 27,.c (.fn Fn.q41 [])]])
 (.seq (.reg [zm 29 5,zM 4 29])
 .ret)
section
variable {G:Gam} {h:Heap} {m n:Nat} {ts:List PD} {seen:List Nat}
def AD(h:Heap)(ts:List PD):Heap:=h++[.arr 2 0 [] true,.arr 2 ts.length (ts.map rowPD) true,.dead]
theorem AH_dead:(AH h m n ts seen []).set (h.length+2) .dead=AD h ts:=by
 unfold AH AD; rw [List.set_append_right _ _ (by simp)]; simp
theorem AD_arr:(AD h ts)[h.length+1]?=some (.arr 2 ts.length (ts.map rowPD) true):=by
 unfold AD; rw [List.getElem?_append_right (by simp)]; simp
theorem AD_set{b:Blk}:(AD h ts).set (h.length+1) b=h++[.arr 2 0 [] true,b,.dead]:=by
 unfold AD; rw [List.set_append_right _ _ (by simp)]; simp
theorem ent_all{es:List (AV×AV)}{i:Nat}{a b:AV}(hm:h[m]?=some (.map es))(hn:es.length=n)(hi:es[i]?=some (a,b)):entAV (AH h m n ts (seen++[i]) []) (h.length+2)=some (.tup [a,b]):=by
 unfold entAV
 rw [AH_mit]
 simp [AH_get hm,hn,hi]
end
@[simp] theorem op_ent_ptr{G:Gam}{s:Bool}{h:Heap}{l:Nat}:opV G s h .ent (some [.ptr l 0])=(entAV h l).map fun v=>(v,h):=by rw [opV_quiet rfl]; rfl
theorem all_frz{h:Heap}{a c:Blk}{ver:Nat}{rows:List (List AV)}{n:Nat}(hn:n=rows.length):frz (h++[a,.arr 2 ver rows true,c]) (.own (h.length+1) ver n)=some (.sl rows,h++[a,.arr 2 ver rows false,c]):=by
 have e:(h++[a,Blk.arr 2 ver rows true,c])[h.length+1]?=some (.arr 2 ver rows true):=by
  rw [List.getElem?_append_right (by simp)]; simp
 subst hn
 simp [frz,view,rowsOf,owns,freezeAll,freeze1]
theorem all_end{G:Gam}{gs:List FuncId}(hS:G Fn.q24=some (.gen (F_SortPD gs)))(hg:gs.contains Fn.q41=true)
  {h:Heap} {l m:Nat} {like:AV} {ps:List PD} {q:Bs→Bool} {ts:List PD} {seen:List Nat} (hlow:lowH h.length h=true) (hml:m<h.length) (hfr:lowFr (h.length+3) [(0,AV.ptr l 0),(1,like),(4,.own h.length 0 0),(5,.own (h.length+1) ts.length ts.length),(6,.junk),(7,.junk),(12,.ptr (h.length+2) 0)]=true)
  (hm:h[m]?=some (.map (ps.map entPD))) (h0:left ps.length seen=[]) (hnd:seen.Nodup) (hs:∀ i∈seen,i<ps.length) (hts:ts=pick ps q seen) (hd:distP ps=true) (hlen:ps.length≤1000) (_hne:(ps.filter fun p=>q p.1)≠[]) :
  headM G [6,7] Mc.q47_L0 (h.length+3) [.blk 0,.seq tailAll] (genZLQ h.length Rs.q47 (.sl ((sortPD (ps.filter fun p=>q p.1)).map rowPD)) h)
   [(0,.ptr l 0),(1,like),(4,.own h.length 0 0),(5,.own (h.length+1) ts.length ts.length),(6,.junk),(7,.junk),(12,.ptr (h.length+2) 0)] (AH h m ps.length ts seen []):=by
 have hperm:ts.Perm (ps.filter fun p=>q p.1):=by rw [hts]; exact pick_all hnd hs (left_nil h0)
 have hdf:distP (ps.filter fun p=>q p.1)=true:=dist_filter hd
 have hdt:distP ts=true:=distP_perm hperm.symm hdf
 have hsort:sortPD ts=sortPD (ps.filter fun p=>q p.1):=sorted_one hdf ((sortPD_perm ts).trans hperm) (sortPD_sorted ts)
 have hlen1:ts.length≤ps.length:=by rw [hperm.length_eq]; exact List.length_filter_le _ _
 have hbig:ts.length≤big:=by unfold big; omega
 have hcall:opV G false (AD h ts) (.call Fn.q24) (some [.own (h.length+1) ts.length ts.length,.fn Fn.q41 []])=some (.tup [],h++[.arr 2 0 [] true,.arr 2 ts.length ((sortPD ts).map rowPD) true,.dead]):=by
  rw [op_call_gen hS];unfold F_SortPD;simp only [AD_arr,decPD_de,hdt];rw [if_pos ⟨hg,trivial,trivial,hbig,trivial⟩,AD_set]
 rw [hsort]at hcall
 refine head_go (Mc.q47_L0.eq_1) ?_
 rw [show junkAll [6,7] [(0,AV.ptr l 0),(1,like),(4,.own h.length 0 0),(5,.own (h.length+1) ts.length ts.length),(6,.junk),(7,.junk),(12,.ptr (h.length+2) 0)]=[(0,AV.ptr l 0),(1,like),(4,.own h.length 0 0),(5,.own (h.length+1) ts.length ts.length),(6,.junk),(7,.junk),(12,.ptr (h.length+2) 0)]from rfl,AH_cut hlow hml hfr]
 rw [go_seq,go_rgn]
 show altM G (some 13) false _ _ _ _ (mnxAV (AH h m ps.length ts seen []) (h.length+2))
 rw [AH_mnx hm (by simp),h0]
 intro r hr
 rcases List.mem_singleton.1 hr with rfl
 rw [AH_dead]
 simp [tailAll,hcall,genZLQ,LeaveZ,Rs.q47]
 refine ⟨_,all_frz (by rw [← hsort,List.length_map,(sortPD_perm ts).length_eq]),leaves_app,hlow⟩
theorem all_L0(G:Gam){vis r1:FuncId}{gs:List FuncId}(hV:G vis=some (.gen (lookF F_vis)))(hR:G r1=some (.pure F_yes))(hS:G Fn.q24=some (.gen (F_SortPD gs)))(hg:gs.contains Fn.q41=true)
  {h:Heap} {l m:Nat} {like:AV} {ps:List PD} (hl:l<h.length) (hlow:lowH h.length h=true) (hlk:low h.length like=true) (hm:h[m]?=some (.map (ps.map entPD))) (hlen:ps.length≤1000) (hd:distP ps=true)
  (hall:∀ p∈ps,likeB vis r1 h like p.1=some (likeB vis r1 h like p.1 == some true)) (hne:(ps.filter fun p=>likeB vis r1 h like p.1 == some true)≠[]) :
  ∀ (N:Nat) (seen:List Nat) (ts:List PD),(left ps.length seen).length≤N→seen.Nodup→(∀ i∈seen,i<ps.length)→ts=pick ps (fun s=>likeB vis r1 h like s == some true) seen→
  headM G [6,7] Mc.q47_L0 (h.length+3) [.blk 0,.seq tailAll] (genZLQ h.length Rs.q47 (.sl ((sortPD (ps.filter fun p=>likeB vis r1 h like p.1 == some true)).map rowPD)) h)
   [(0,.ptr l 0),(1,like),(4,.own h.length 0 0),(5,.own (h.length+1) ts.length ts.length),(6,.junk),(7,.junk),(12,.ptr (h.length+2) 0)] (AH h m ps.length ts seen []):=by
 intro N
 have hml:m<h.length:=(List.getElem?_eq_some_iff.1 hm).1
 have hlk3:low (h.length+3) like=true:=low_up (by omega) hlk
 have hfr:∀ ts:List PD,lowFr (h.length+3) [(0,AV.ptr l 0),(1,like),(4,.own h.length 0 0),(5,.own (h.length+1) ts.length ts.length),(6,.junk),(7,.junk),(12,.ptr (h.length+2) 0)]=true:=fun ts=>by
  simp [lowFr,low,hlk3]; omega
 induction N with
 | zero=>
  intro seen ts hN hnd hs hts;have h0:left ps.length seen=[]:=List.eq_nil_of_length_eq_zero (by omega);exact all_end (q:=fun s=>likeB vis r1 h like s == some true) hS hg hlow hml (hfr ts) hm h0 hnd hs hts hd hlen hne
 | succ N ih=>
  intro seen ts hN hnd hs hts;cases h0:left ps.length seen with
  | nil=>exact all_end (q:=fun s=>likeB vis r1 h like s == some true) hS hg hlow hml (hfr ts) hm h0 hnd hs hts hd hlen hne
  | cons i0 is0=>
   refine head_go (Mc.q47_L0.eq_1) ?_
   rw [show junkAll [6,7] [(0,AV.ptr l 0),(1,like),(4,.own h.length 0 0),(5,.own (h.length+1) ts.length ts.length),(6,.junk),(7,.junk),(12,.ptr (h.length+2) 0)]=[(0,AV.ptr l 0),(1,like),(4,.own h.length 0 0),(5,.own (h.length+1) ts.length ts.length),(6,.junk),(7,.junk),(12,.ptr (h.length+2) 0)]from rfl,AH_cut hlow hml (hfr ts)];rw [go_seq,go_rgn];show altM G (some 13) false _ _ _ _ (mnxAV (AH h m ps.length ts seen []) (h.length+2))
   rw [AH_mnx hm (by simp),h0];intro r hr;obtain ⟨i,hi,rfl⟩:=List.mem_map.1 hr;rw [← h0]at hi;obtain ⟨hip,his⟩:=left_mem.1 hi;have hp:ps[i]?=some ps[i]:=List.getElem?_eq_getElem hip;generalize hpe:ps[i]=p at hp;have hpm:p∈ps:=by rw [← hpe]; exact List.getElem_mem hip
   have hes:(ps.map entPD)[i]?=some (.str p.1,.str p.2):=by simp [hp,entPD]
   have hent:entAV (AH h m ps.length ts (seen++[i]) []) (h.length+2)=some (.tup [.str p.1,.str p.2]):=ent_all hm (by simp) hes;have hN':(left ps.length (seen++[i])).length≤N:=by have:=left_snoc hi; omega
   have hnd':(seen++[i]).Nodup:=by
    rw [List.nodup_append]; exact ⟨hnd,by simp,fun a ha b hb=>by simp at hb; subst hb; exact fun e=>his (e▸ha)⟩
   have hs':∀ j∈seen++[i],j<ps.length:=fun j hj=>by
    rcases List.mem_append.1 hj with hj | hj
    ·exact hs j hj
    ·simp at hj; subst hj; exact hip
   have hsn:=pick_snoc (b:=fun s=>likeB vis r1 h like s == some true) (seen:=seen) hp;rw [← hts]at hsn;have hts1:ts.length<big:=by
    have:ts.length≤ps.length:=by
     rw [hts]; unfold pick;refine Nat.le_trans (List.length_filter_le _ _) ?_
     refine Nat.le_trans (List.length_filterMap_le _ _) ?_
     have hp:seen.Perm ((List.range ps.length).filter fun i=>seen.contains i):=(List.perm_ext_iff_of_nodup hnd (List.nodup_range.filter _)).2 fun a=>by
      simp only [List.mem_filter,List.mem_range,List.contains_iff_mem];exact ⟨fun ha=>⟨hs a ha,ha⟩,fun ha=>ha.2⟩
     rw [hp.length_eq];exact Nat.le_trans (List.length_filter_le _ _) (by simp)
    unfold big; omega
   have hask:=hall p hpm;cases hb:(likeB vis r1 h like p.1 == some true)with
   | true=>
    rw [hb]at hask;have hc:opV G false (AH h m ps.length ts (seen++[i]) []) .callv (some [like,.str p.1])=some (.bool true,AH h m ps.length ts (seen++[i]) []):=like_call hV hR hask;have ha:opV G false (AH h m ps.length ts (seen++[i]) []) (.app false 2 32) (some [.own (h.length+1) ts.length ts.length,.tsl [[.str p.1,.str p.2]]])=some (.own (h.length+1) (ts++[p]).length (ts++[p]).length,AH h m ps.length (ts++[p]) (seen++[i]) []):=by
     have:=op_app1 (G:=G) (s:=false) (e:=rowPD) (n:=2) (b:=32) (x:=p) (AH_arr (h:=h) (m:=m) (n:=ps.length) (ts:=ts) (seen:=seen++[i]) (x:=[])) rfl (by omega) hts1;rw [AH_app]at this;exact this
    rw [hb,if_pos rfl]at hsn;have ih':=ih (seen++[i]) (ts++[p]) hN' hnd' hs' hsn.symm;simp [hent,hc,ha,viewL,view,sizesOk,onesOk,AV.cells,bldAV];refine head_of ?_
    rw [show ∀ a b c:AV,junkAll [6,7] [(0,AV.ptr l 0),(1,like),(4,.own h.length 0 0),(5,a),(6,b),(7,c),(12,.ptr (h.length+2) 0)]=[(0,AV.ptr l 0),(1,like),(4,.own h.length 0 0),(5,a),(6,.junk),(7,.junk),(12,.ptr (h.length+2) 0)]from fun _ _ _=>rfl];have hcut:=AH_cut (ts:=ts++[p]) (n:=ps.length) (seen:=seen++[i]) (x:=[]) hlow hml (hfr (ts++[p]));simp only [List.length_append,List.length_cons,List.length_nil]at hcut ih';rw [hcut];exact ih'
   | false=>
    rw [hb]at hask;have hc:opV G false (AH h m ps.length ts (seen++[i]) []) .callv (some [like,.str p.1])=some (.bool false,AH h m ps.length ts (seen++[i]) []):=like_call hV hR hask;rw [hb,if_neg (by simp),List.append_nil]at hsn;have ih':=ih (seen++[i]) ts hN' hnd' hs' hsn.symm;simp [hent,hc];refine head_of ?_
    rw [show ∀ a b c:AV,junkAll [6,7] [(0,AV.ptr l 0),(1,like),(4,.own h.length 0 0),(5,a),(6,b),(7,c),(12,.ptr (h.length+2) 0)]=[(0,AV.ptr l 0),(1,like),(4,.own h.length 0 0),(5,a),(6,.junk),(7,.junk),(12,.ptr (h.length+2) 0)]from fun _ _ _=>rfl];rw [AH_cut hlow hml (hfr ts)];exact ih'
theorem op_rngm{G:Gam}{h:Heap}{m:Nat}{es:List (AV×AV)}(hm:h[m]?=some (.map es)):opV G false h .rngm (some [.map m])=some (.ptr h.length 0,h++[.mit (some m) es.length [] es.length]):=by
 rw [opV_eff rfl]; simp [evalEff,hm]
theorem left_le(n:Nat)(seen:List Nat):(left n seen).length≤n:=by
 unfold left; exact Nat.le_trans (List.length_filter_le _ _) (by simp)
theorem F_all_inv{vis r1:FuncId}{args:List AV}{h h':Heap}{r:AV}(hF:F_all vis r1 args h=some (r,h')):∃ l like m ps,args=[.ptr l 0,like]∧loadAV 1 false h (.ptr l 1)=some (.map m)∧h[m]?=some (.map (ps.map entPD))∧
  (∀ p∈ps,likeB vis r1 h like p.1=some (likeB vis r1 h like p.1 == some true))∧distP ps=true∧ps.length≤1000∧(ps.filter fun p=>likeB vis r1 h like p.1 == some true)≠[]∧r=.sl ((sortPD (ps.filter fun p=>likeB vis r1 h like p.1 == some true)).map rowPD)∧h=h':=by
 unfold F_all at hF
 split at hF
 ·rename_i l like
  split at hF
  ·rename_i m h1
   split at hF
   ·rename_i es h2
    split at hF
    ·rename_i ps h3
     split at hF
     ·rename_i hc
      obtain ⟨c1,c2,c3,c4⟩:=hc;injection hF with hF
      injection hF with e1 e2
      refine ⟨l,like,m,ps,rfl,h1,by rw [h2,decE_ed h3],fun p hp=>?_,c2,c3,c4,e1.symm,e2⟩
      have:=List.all_eq_true.1 c1 p hp;cases hq:likeB vis r1 h like p.1 with
      | none=>rw [hq]at this; cases this
      | some b=>cases b <;> rfl
     ·cases hF
    ·cases hF
   ·cases hF
  ·cases hF
 ·cases hF
theorem all_ok(G:Gam){vis r1:FuncId}{gs:List FuncId}(hV:G vis=some (.gen (lookF F_vis)))(hR:G r1=some (.pure F_yes))(hS:G Fn.q24=some (.gen (F_SortPD gs)))(hg:gs.contains Fn.q41=true) :
  ∀ args h r h',lowL h.length args=true→lowH h.length h=true→F_all vis r1 args h=some (r,h')→wpM G Mc.q47 (genZLQ h.length Rs.q47 r h') [] (frInit Ks.q47 args) h:=by
 intro args h r h' hla hlow hF
 obtain ⟨l,like,m,ps,rfl,h1,h2,h3,h4,h5,h6,rfl,rfl⟩:=F_all_inv hF
 simp only [lowL,low,Bool.and_eq_true,decide_eq_true_eq,and_true]at hla
 rw [wpM_go]
 have e1:loadAV 1 false (h++[.arr 2 0 [] true,.arr 2 0 [] true]) (.ptr l 1)=some (.map m):=load_more h1
 have hlen:(h++[Blk.arr 2 0 [] true,Blk.arr 2 0 [] true]++[Blk.mit (some m) (ps.map entPD).length [] (ps.map entPD).length])=AH h m ps.length [] [] []:=by simp [AH]
 have e2:opV G false (h++[.arr 2 0 [] true,.arr 2 0 [] true]) .rngm (some [.map m])=some (.ptr (h.length+2) 0,AH h m ps.length [] [] []):=by
  rw [op_rngm (get_more h2),hlen]; simp
 have e3:(AH h m ps.length [] [] []).length=h.length+3:=by simp [AH]
 have hL:=all_L0 G hV hR hS hg hla.1 hlow hla.2 h2 h5 h4 h3 h6 ps.length [] [] (left_le _ _) List.nodup_nil (fun _ hi=>by cases hi) rfl
 simp [Mc.q47,frInit,Ks.q47,e1,e2,e3,-loadAV]
 exact hL
end Go.Proofs.YtpefhfiehfkocaaGreatDoor
