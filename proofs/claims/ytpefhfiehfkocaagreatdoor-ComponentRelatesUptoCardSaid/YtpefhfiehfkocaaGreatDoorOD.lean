/- slices.Concat of two sets of lines; lineset.merge. lineset.merge: the own array is sorted,what is merged is handed back. lineset.Union; origin.union,Valid; the reference's Valid. origin.union,Union -/
import Derived.Test.YtpefhfiehfkocaaGreatDoorOC
import Derived.Test.YtpefhfiehfkocaaGreatDoorRmJ
import Derived.Test.YtpefhfiehfkocaaGreatDoorAm10
import Derived.Test.YtpefhfiehfkocaaGreatDoorRmK
namespace Go.Proofs.YtpefhfiehfkocaaGreatDoor
open Go.RowKit Go.IntWalk
def F_Concat2:List AV→Heap→Option (AV×Heap)
 | [.tsl [[.sl ra],[.sl rb]]],h=>match decAll decSpn ra,decAll decSpn rb with
  | some a,some b=>if a.length+b.length≤1000000 then
    (if a++b=[]then some (.nils,h++[.arr 3 0 [] true])else some (.own (h.length+1) (a++b).length (a++b).length,h++[.arr 3 0 [] true,.arr 3 (a++b).length (spRows (a++b)) true]))else none
  | _,_=>none
 | _,_=>none
theorem spRows_app(a b:List Sp):spRows (a++b)=spRows a++spRows b:=by simp [spRows]
theorem sizes_sp(l:List Sp):sizesOk 3 (spRows l)=true:=sizesOk_map spn_len l
theorem c2_app{G:Gam}{s:Bool}{P:Heap}{L:Nat}(hL:L=P.length)(x y:List Sp)(hn:x.length+y.length≤1000000) :
  opV G s (P++[.arr 3 x.length (spRows x) true]) (.app false 3 32) (some [.own L x.length x.length,.sl (spRows y)])=some (.own L (x++y).length (x++y).length,P++[.arr 3 (x++y).length (spRows (x++y)) true]):=by
 subst hL
 by_cases hy:y=[]
 ·subst hy
  rw [opV_eff rfl];simp [evalEff,appRows,rowsOf,spRows,sizesOk,appAV]
 ·have hl:(P++[Blk.arr 3 x.length (spRows x) true])[P.length]?=some (.arr 3 x.length (spRows x) true):=by simp
  have:=op_app (G:=G) (s:=s) (h:=P++[Blk.arr 3 x.length (spRows x) true]) (n:=3) (b:=32) (l:=P.length) (ver:=x.length) (k:=x.length) (x:=.sl (spRows y)) (new:=spRows y) (rows:=spRows x) rfl hl (by simp) (sizes_sp y) (by simpa [spRows] using hy) (by simp; unfold byteMax; omega) (by simp; unfold byteMax; omega);rw [this];simp [spRows_app]
theorem concat_L0{G:Gam}{ks:List MK}{Q:MPost}{ra rb:List (List AV)}{v2 v5 v6 v8 v25 v26 v27:AV}{H:Heap}(hn:ra.length+rb.length≤1000000)
  (hk:∀ env,exM G .normal ks Q env [(0,.tsl [[.sl ra],[.sl rb]]),(2,v2),(3,.int .i64 ((ra.length+rb.length:Nat):Int)),(5,.junk),(6,v6),(8,v8),(9,.tsl [[.sl ra],[.sl rb]]),(10,.int .i64 2),(11,.int .i64 2),(25,v25),(26,v26),(27,v27)] H) :
  headM G [5] Mc.q26_L0 H.length (.blk 0::ks) Q [(0,.tsl [[.sl ra],[.sl rb]]),(2,v2),(3,.int .i64 0),(5,v5),(6,v6),(8,v8),(9,.tsl [[.sl ra],[.sl rb]]),(10,.int .i64 2),(11,.int .i64 0),(25,v25),(26,v26),(27,v27)] H:=by
 have l00:ltB 0 2=true:=rfl
 have l12:ltB 1 2=true:=rfl
 have l22:ltB 2 2=false:=rfl
 have w0:IntKind.i64.wrap (ra.length:Int)=ra.length:=i64_in _ ⟨by omega,by omega⟩
 have w1:IntKind.i64.wrap ((ra.length:Int)+(rb.length:Int))=((ra.length+rb.length:Nat):Int):=by rw [i64_in _ ⟨by omega,by omega⟩]; omega
 have na:ltB (ra.length:Int) 0=false:=ltB_not.2 (by omega)
 have nb:ltB ((ra.length+rb.length:Nat):Int) 0=false:=ltB_not.2 (by omega)
 have wi0:IntKind.i64.wrap 1=1:=rfl
 have wi1:IntKind.i64.wrap (1+1)=2:=rfl
 have la:lenAV H 1 (.sl ra)=some (.int .i64 (ra.length:Int)):=rfl
 have lb:lenAV H 1 (.sl rb)=some (.int .i64 (rb.length:Int)):=rfl
 have i0:iadrAV 1 H (.tsl [[.sl ra],[.sl rb]]) (.int .i64 0)=some (.fptr [.sl ra] 0):=rfl
 have i1:iadrAV 1 H (.tsl [[.sl ra],[.sl rb]]) (.int .i64 1)=some (.fptr [.sl rb] 0):=rfl
 have d0:loadAV 1 false H (.fptr [.sl ra] 0)=some (.sl ra):=rfl
 have d1:loadAV 1 false H (.fptr [.sl rb] 0)=some (.sl rb):=rfl
 generalize (ra.length+rb.length)=N at *
 generalize hT:AV.tsl [[.sl ra],[.sl rb]]=T at *
 refine head_go (Mc.q26_L0.eq_1) ?_
 rw [vtrunc_len rfl]
 simp [l00,i0,d0,la,w0,na,wi0,-loadAV,-lenAV]
 refine head_of ?_
 rw [vtrunc_len rfl]
 refine head_go (Mc.q26_L0.eq_1) ?_
 rw [vtrunc_len rfl]
 simp [l12,i1,d1,lb,w1,nb,-loadAV,-lenAV]
 refine head_of ?_
 rw [vtrunc_len rfl]
 refine head_go (Mc.q26_L0.eq_1) ?_
 rw [vtrunc_len rfl]
 simp 
 exact hk _
theorem concat_L1{G:Gam}{ks:List MK}{Q:MPost}{ra rb:List (List AV)}{v2 v3 v5 v8 v9 v10 v11 o0 o1 o2:AV}{H H1 H2:Heap}(h1:H1.length=H.length)(h2:H2.length=H.length)
  (a1:opV G false H (.app false 3 32) (some [o0,.sl ra])=some (o1,H1)) (a2:opV G false H1 (.app false 3 32) (some [o1,.sl rb])=some (o2,H2))
  (hk:∀ env,exM G .normal ks Q env [(0,.tsl [[.sl ra],[.sl rb]]),(2,v2),(3,v3),(5,v5),(6,o2),(8,.junk),(9,v9),(10,v10),(11,v11),(25,.tsl [[.sl ra],[.sl rb]]),(26,.int .i64 2),(27,.int .i64 2)] H2) :
  headM G [8] Mc.q26_L1 H.length (.blk 2::ks) Q [(0,.tsl [[.sl ra],[.sl rb]]),(2,v2),(3,v3),(5,v5),(6,o0),(8,v8),(9,v9),(10,v10),(11,v11),(25,.tsl [[.sl ra],[.sl rb]]),(26,.int .i64 2),(27,.int .i64 0)] H:=by
 have l00:ltB 0 2=true:=rfl
 have l12:ltB 1 2=true:=rfl
 have l22:ltB 2 2=false:=rfl
 have wi0:IntKind.i64.wrap 1=1:=rfl
 have wi1:IntKind.i64.wrap (1+1)=2:=rfl
 have i0:∀ H,iadrAV 1 H (.tsl [[.sl ra],[.sl rb]]) (.int .i64 0)=some (.fptr [.sl ra] 0):=fun _=>rfl
 have i1:∀ H,iadrAV 1 H (.tsl [[.sl ra],[.sl rb]]) (.int .i64 1)=some (.fptr [.sl rb] 0):=fun _=>rfl
 have d0:∀ H,loadAV 1 false H (.fptr [.sl ra] 0)=some (.sl ra):=fun _=>rfl
 have d1:∀ H,loadAV 1 false H (.fptr [.sl rb] 0)=some (.sl rb):=fun _=>rfl
 generalize hT:AV.tsl [[.sl ra],[.sl rb]]=T at *
 refine head_go (Mc.q26_L1.eq_1) ?_
 rw [vtrunc_len rfl]
 simp [l00,i0,d0,a1,wi0,-loadAV]
 refine head_of ?_
 rw [vtrunc_len h1]
 refine head_go (Mc.q26_L1.eq_1) ?_
 rw [vtrunc_len h1]
 simp [l12,i1,d1,a2,-loadAV]
 refine head_of ?_
 rw [vtrunc_len h2]
 refine head_go (Mc.q26_L1.eq_1) ?_
 rw [vtrunc_len h2]
 simp 
 exact hk _
theorem concat_ok{G:Gam}(hG:G Fn.q31=some (.gen (F_GrowG 3))):∀ args h r h',F_Concat2 args h=some (r,h')→
  wpM G Mc.q26 (genQ Rs.q26 r h') [] (frInit Ks.q26 args) h:=by
 intro args h r h' hF
 unfold F_Concat2 at hF
 split at hF
 ·rename_i ra rb
  split at hF
  ·rename_i a b ha hb
   split at hF
   ·rename_i hn
    obtain rfl:=spRows_of ha;obtain rfl:=spRows_of hb;have hlen:(a++b).length=a.length+b.length:=List.length_append;have hnr:(spRows a).length+(spRows b).length≤1000000:=by simpa using hn
    have lt2:∀ (x y:List AV) (H:Heap),lenAV H 1 (.tsl [x,y])=some (.int .i64 2):=fun x y H=>rfl
    have e1:(h++[Blk.arr 3 0 [] true]).length=h.length+1:=by simp
    have L0:=fun ks Q v2 v5 v6 v8 v25 v26 v27 hk=>concat_L0 (G:=G) (ks:=ks) (Q:=Q) (v2:=v2) (v5:=v5) (v6:=v6) (v8:=v8) (v25:=v25) (v26:=v26) (v27:=v27) (H:=h++[Blk.arr 3 0 [] true]) hnr hk
    rw [e1]at L0;rw [wpM_go];by_cases he:a++b=[]
    ·rw [if_pos he]at hF
     injection hF with hF; injection hF with e1 e2; subst e1 e2
     obtain ⟨rfl,rfl⟩:=List.append_eq_nil_iff.1 he;have cg:∀ H:Heap,opV G false H (.call Fn.q31) (some [.nils,.int .i64 0])=some (.nils,H):=fun H=>by
      rw [op_call_gen hG]; simp [F_GrowG]
     have ap:∀ H:Heap,opV G false H (.app false 3 32) (some [.nils,.sl []])=some (.nils,H):=fun H=>by
      rw [opV_eff rfl]; simp [evalEff,appRows,rowsOf,sizesOk,appAV]
     simp [Mc.q26,Ks.q26,frInit,lt2,-lenAV];refine L0 _ _ _ _ _ _ _ _ _ fun env=>?_
     simp [spRows,cg,lt2,-lenAV];have L1:=fun ks Q v2 v3 v5 v8 v9 v10 v11 hk=>concat_L1 (G:=G) (ks:=ks) (Q:=Q) (v2:=v2) (v3:=v3) (v5:=v5) (v8:=v8) (v9:=v9) (v10:=v10) (v11:=v11) (H:=h++[Blk.arr 3 0 [] true]) rfl rfl (ap _) (ap _) hk
     rw [e1]at L1;refine L1 _ _ _ _ _ _ _ _ _ fun env=>?_
     simp [genQ,Rs.q26]
    ·rw [if_neg he]at hF
     injection hF with hF; injection hF with e3 e4; subst e3 e4
     have hpos:0<a.length+b.length:=by rw [← hlen]; exact List.length_pos_iff.2 he
     have cg:opV G false (h++[.arr 3 0 [] true]) (.call Fn.q31) (some [.nils,.int .i64 ((a.length+b.length:Nat):Int)])=some (.own (h.length+1) 0 0,h++[.arr 3 0 [] true,.arr 3 0 [] true]):=by
      rw [op_call_gen hG];simp only [F_GrowG];rw [if_pos ⟨by omega,by omega⟩];simp
     have a1:=c2_app (G:=G) (s:=false) (P:=h++[.arr 3 0 [] true]) (L:=h.length+1) (by simp) [] a (by simp; omega);have a2:=c2_app (G:=G) (s:=false) (P:=h++[.arr 3 0 [] true]) (L:=h.length+1) (by simp) a b hn;simp only [List.nil_append,List.length_nil,List.append_assoc,List.cons_append]at a1 a2;have hsp0:spRows []=[]:=rfl;rw [hsp0]at a1;simp [Mc.q26,Ks.q26,frInit,lt2,-lenAV];refine L0 _ _ _ _ _ _ _ _ _ fun env=>?_
     have L1:=fun ks Q v2 v3 v5 v8 v9 v10 v11 hk=>concat_L1 (G:=G) (ks:=ks) (Q:=Q) (v2:=v2) (v3:=v3) (v5:=v5) (v8:=v8) (v9:=v9) (v10:=v10) (v11:=v11) (H:=h++[Blk.arr 3 0 [] true,Blk.arr 3 0 [] true]) (by simp) (by simp) a1 a2 hk
     have e2:(h++[Blk.arr 3 0 [] true,Blk.arr 3 0 [] true]).length=h.length+2:=by simp
     rw [e2]at L1;simp only [spRows_len];generalize hN:(a.length+b.length)=N at *;simp [cg,lt2,-lenAV];refine L1 _ _ _ _ _ _ _ _ _ fun env=>?_
     simp [genQ,Rs.q26];exact hN
   ·cases hF
  ·cases hF
 ·cases hF
end Go.Proofs.YtpefhfiehfkocaaGreatDoor
namespace Go.Proofs.YtpefhfiehfkocaaGreatDoor
open Go.RowKit Go.IntWalk
def F_merge:List AV→Heap→Option (AV×Heap)
 | [.own l ver n],h=>match h[l]? with
  | some (.arrX false none 3 ver' rows true)=>match decAll decSpn rows with
   | some ps=>if ver=ver'∧n=ps.length∧ps.length≤1000000 then some (.sl (spRows (mergeO (sortQ ps))),h.set l (.arr 3 ver (spRows (sortQ ps)) true))else none
   | none=>none
  | _=>none
 | [.nils],h=>some (.sl [],h)
 | _,_=>none
theorem mrgF_len(cur:Sp):∀ l,(mrgF cur l).length≤l.length+1
 | []=>by simp [mrgF]
 | s::r=>by
  unfold mrgF; split
  ·have:=mrgF_len s r; simp; omega
  ·have:=mrgF_len ⟨cur.p,cur.f,if cur.t<s.t then s.t else cur.t⟩ r; simp; omega
theorem mergeO_len(l:List Sp):(mergeO l).length≤l.length:=by
 cases l with
 | nil=>simp [mergeO]
 | cons s r=>have:=mrgF_len s r; simp [mergeO]; omega
def MH(P:Heap)(os:List Sp):Heap:=P++[.arr 3 0 [] true,.arr 3 os.length (spRows os) true]
section
variable {P x:Heap} {os:List Sp} {l:Nat} {b:Blk}
theorem MH_len:(MH P os).length=P.length+2:=by simp [MH]
theorem MH_get(hb:P[l]?=some b):(MH P os++x)[l]?=some b:=by
 unfold MH; rw [List.append_assoc]; exact get_more hb
theorem MH_out:(MH P os++x)[P.length+1]?=some (.arr 3 os.length (spRows os) true):=by
 unfold MH; rw [List.append_assoc,List.getElem?_append_right (by simp)]; simp
theorem MH_set{os':List Sp}:(MH P os++x).set (P.length+1) (.arr 3 os'.length (spRows os') true)=MH P os'++x:=by
 unfold MH; rw [List.append_assoc,List.set_append_right _ _ (by simp),List.append_assoc]; simp
theorem MH_cut{fr:List (Nat×AV)}(hlow:lowH P.length P=true)(hf:lowFr (P.length+2) fr=true):trunc (P.length+2) fr (MH P os++x)=MH P os:=by
 refine trunc_low MH_len hf ?_
 unfold MH
 refine lowH_app (lowH_up (by omega) hlow) ?_
 have:∀ l:List Sp,lowB (P.length+2) (.arr 3 l.length (spRows l) true)=true:=fun l=>rfl
 simp [lowH]
theorem MH_app{G:Gam}{s:Sp}(ho:os.length<big):opV G false (MH P os++x) (.app false 3 32) (some [.own (P.length+1) os.length os.length,.tsl [s.row]])=some (.own (P.length+1) (os++[s]).length (os++[s]).length,MH P (os++[s])++x):=by
 have:=op_app1 (G:=G) (s:=false) (e:=Sp.row) (n:=3) (b:=32) (x:=s) (MH_out (P:=P) (os:=os) (x:=x)) rfl (by omega) ho
 rw [this]
 congr 2
 exact MH_set (os':=os++[s])
end
theorem spRows_last(dn:List Sp)(cur:Sp):(spRows (dn++[cur]))[dn.length]?=some cur.row:=by simp [spRows]
theorem merge_L0{G:Gam}(hB:G Fn.q74=some (.pure F_beh)){P:Heap}{l ver:Nat}{S:List Sp}(hP:P[l]?=some (.arr 3 ver (spRows S) true))(hl:l<P.length)(hlow:lowH P.length P=true)(hS:S.length≤1000000)(R:List Sp) :
  ∀ (rest:List Sp) (i:Nat) (os:List Sp) (_ _:AV),S.drop i=rest→os.length≤i→i≤S.length→((os=[]∧R=mergeO rest)∨∃ dn cur,os=dn++[cur]∧R=dn++mrgF cur rest)→
  headM G [5,6] Mc.q83_L0 (P.length+2) [.blk 0,.seq (.seq (.reg [zm 46 3,zM 2 46]) .ret)] (genZLQ P.length Rs.q83 (.sl (spRows R)) P)
   [(0,.own l ver S.length),(2,.own P.length 0 0),(3,.own (P.length+1) os.length os.length),(5,.junk),(6,.junk),(9,.own l ver S.length),(10,.int .i64 S.length),(11,.int .i64 i)] (MH P os)
 | [],i,os,v5,v6,hd,ho,hi,hR=>by
  have hi2:=drop_nil hd;have hq:ltB (i:Int) (S.length:Int)=false:=ltB_not.2 (by omega);have hRo:R=os:=by
   rcases hR with ⟨rfl,h⟩ | ⟨dn,cur,rfl,h⟩
   ·simpa [mergeO] using h
   ·simpa [mrgF] using h
  subst hRo;refine head_go (Mc.q83_L0.eq_1) ?_
  rw [show MH P R=MH P R++[]by simp,MH_cut hlow (by simp [junkAll,lowFr,low]; omega)];simp [hq,genZLQ,LeaveZ,Rs.q83];have hgo:(MH P R)[P.length+1]?=some (.arr 3 R.length (spRows R) true):=by have:=MH_out (P:=P) (os:=R) (x:=[]); simpa using this
  refine ⟨P++[.arr 3 0 [] true,.arr 3 R.length (spRows R) false],?_,leaves_app,hlow⟩
  have hset:(MH P R).set (P.length+1) (.arr 3 R.length (spRows R) false)=P++[.arr 3 0 [] true,.arr 3 R.length (spRows R) false]:=by
   unfold MH; rw [List.set_append_right _ _ (by simp)]; simp
  simp [frz,view,rowsOf,hgo,owns,freezeAll,freeze1,hset,List.take_of_length_le]
 | s::rest,i,os,v5,v6,hd,ho,hi,hR=>by
  obtain ⟨hlt,hx,hxd⟩:=drop_cons hd;have hq:ltB (i:Int) (S.length:Int)=true:=ltB_iff.2 (by omega);have hw:=wrap1 (i:=i) (by unfold big; omega);have hPl:∀ (os:List Sp) (x:Heap),(MH P os++x)[l]?=some (.arr 3 ver (spRows S) true):=fun os x=>MH_get hP
  have ia:∀ (os:List Sp) (x:Heap),iadrAV 3 (MH P os++x) (.own l ver S.length) (.int .i64 (i:Int))=some (.eptr l ver i 0):=fun os x=>iadr_own (hPl os x) (by simp) (spRows_get hx) rfl
  have l3:∀ (os:List Sp) (x:Heap),loadAV 3 true (MH P os++x) (.eptr l ver i 0)=some (.agg s.row):=fun os x=>by
   rw [ld_eptr (hPl os x) (spRows_get hx)]; simp [cut,mkVal,Sp.row]
  have sn:∀ os:List Sp,stAV 3 (MH P os++[.cells [.str [],.int .i64 0,.int .i64 0]]) (.ptr (P.length+2) 0) (.agg s.row)=some (MH P os++[.cells s.row]):=fun os=>by
   have:=st3_new (h:=MH P os) (a:=.str []) (b:=.int .i64 0) (c:=.int .i64 0) (s:=s);rwa [MH_len]at this
  have ls:∀ os:List Sp,loadAV 3 true (MH P os++[.cells s.row]) (.ptr (P.length+2) 0)=some (.agg s.row):=fun os=>by
   have e:(MH P os++[Blk.cells s.row])[P.length+2]?=some (.cells s.row):=by rw [← MH_len (P:=P) (os:=os)]; simp
   exact ld_all e rfl
  have ls2:∀ os:List Sp,loadAV 1 false (MH P os++[.cells s.row]) (.ptr (P.length+2) 2)=some (.int .i64 s.t):=fun os=>by
   have e:(MH P os++[Blk.cells s.row])[P.length+2]?=some (.cells s.row):=by rw [← MH_len (P:=P) (os:=os)]; simp
   exact ld_cell e rfl
  have bs:∀ st h,opV G st h (.bsl false 3) (some [.agg s.row])=some (.tsl [s.row],h):=fun st h=>by rw [op_bsl rfl]; rfl
  have ap:=MH_app (G:=G) (P:=P) (x:=[.cells s.row]) (os:=os) (s:=s) (by unfold big; omega);have al:opV G false (MH P os) (.alloc [.str [],.int .i64 0,.int .i64 0]) (some [])=some (.ptr (P.length+2) 0,MH P os++[.cells [.str [],.int .i64 0,.int .i64 0]]):=by
   rw [op_alloc,MH_len]
  have next:=fun os' h1 h2=>merge_L0 hB hP hl hlow hS R rest (i+1) os' .junk .junk hxd h1 (by omega) h2
  have cutN:∀ (os':List Sp) fr,lowFr (P.length+2) fr=true→trunc (P.length+2) fr (MH P os'++[.cells s.row])=MH P os':=fun os' fr hf=>MH_cut hlow hf
  refine head_go (Mc.q83_L0.eq_1) ?_
  rw [show MH P os=MH P os++[]by simp,MH_cut hlow (by simp [junkAll,lowFr,low]; omega)];have ia0:=ia os [];have l30:=l3 os [];simp only [List.append_nil]at ia0 l30;rcases hR with ⟨rfl,hR⟩ | ⟨dn,cur,rfl,hR⟩
  ·have wm:IntKind.i64.wrap (-1)=-1:=rfl
   have g0:ltB (-1) 0=true:=rfl;have nx:=next [s] (by simp) (.inr ⟨[],s,rfl,by rw [hR,mergeO]; rfl⟩)
   have cn:=cutN [s];have sn0:=sn [];have ls0:=ls [];simp only [List.nil_append,List.length_nil]at ap al;have one:[s].length=1:=rfl;rw [one]at ap nx;generalize MH P []=H0 at *;generalize hH1:MH P [s]=H1 at *;simp [hq,hw,ia0,l30,al,sn0,ls0,bs,ap,wm,g0,-loadAV,-stAV_ptr,-op_bsl,-op_alloc];refine head_of ?_
   rw [cn _ (by simp [junkAll,lowFr,low]; omega)];simpa [Rs.q83] using nx
  ·have hk:(dn++[cur]).length=dn.length+1:=by simp
   have wm:IntKind.i64.wrap (((dn.length+1:Nat):Int)-1)=(dn.length:Int):=by rw [i64_in _ ⟨by omega,by rw [hk]at ho; omega⟩]; omega
   have g0:ltB (dn.length:Int) 0=false:=ltB_not.2 (by omega);have hrow:=spRows_last dn cur;have sn0:=sn (dn++[cur]);have ls0:=ls (dn++[cur]);have ls20:=ls2 (dn++[cur]);have hout:=MH_out (P:=P) (os:=dn++[cur]) (x:=[.cells s.row]);have iao:iadrAV 3 (MH P (dn++[cur])++[.cells s.row]) (.own (P.length+1) (dn.length+1) (dn.length+1)) (.int .i64 (dn.length:Int))=some (.eptr (P.length+1) (dn.length+1) dn.length 0):=by
    rw [hk]at hout; exact iadr_own hout (by simp) hrow rfl
   have lo3:loadAV 3 true (MH P (dn++[cur])++[.cells s.row]) (.eptr (P.length+1) (dn.length+1) dn.length 0)=some (.agg cur.row):=by
    rw [hk]at hout; rw [ld_eptr hout hrow]; simp [cut,mkVal,Sp.row]
   have lo2:loadAV 1 false (MH P (dn++[cur])++[.cells s.row]) (.eptr (P.length+1) (dn.length+1) dn.length 2)=some (.int .i64 cur.t):=by
    rw [hk]at hout; rw [ld_eptr hout hrow]; simp [cut,mkVal,Sp.row]
   have cb:=use_behind hB cur s;cases hb:behO cur s with
   | true=>
    rw [hb]at cb;have nx:=next (dn++[cur]++[s]) (by rw [List.length_append]; simp at ho ⊢; omega) (.inr ⟨dn++[cur],s,rfl,by rw [hR,mrgF,if_pos hb]; simp⟩)
    have cn:=cutN (dn++[cur]++[s]);have hk3:(dn++[cur]++[s]).length=dn.length+1+1:=by simp
    rw [hk3]at ap nx;rw [hk]at ap;rw [hk];generalize MH P (dn++[cur])=H0 at *;generalize hH1:MH P (dn++[cur]++[s])=H1 at *;generalize dn.length=K at *;simp [hq,hw,ia0,l30,al,sn0,ls0,iao,lo3,bs,ap,wm,g0,cb,-loadAV,-stAV_ptr,-op_bsl,-op_alloc,-Int.natCast_add];refine head_of ?_
    rw [cn _ (by simp [junkAll,lowFr,low]; omega)];simpa [Rs.q83] using nx
   | false=>
    rw [hb]at cb;have nx:=next (dn++[⟨cur.p,cur.f,if cur.t<s.t then s.t else cur.t⟩]) (by simp at ho ⊢; omega) (.inr ⟨dn,_,rfl,by rw [hR,mrgF,if_neg (by rw [hb]; exact Bool.false_ne_true)]⟩)
    have hk2:(dn++[(⟨cur.p,cur.f,if cur.t<s.t then s.t else cur.t⟩:Sp)]).length=dn.length+1:=by simp
    have cn:=cutN (dn++[⟨cur.p,cur.f,if cur.t<s.t then s.t else cur.t⟩]);have mx:∀ (st:Bool) (H:Heap),opV G st H .max (some [.int .i64 cur.t,.int .i64 s.t])=some (.int .i64 (if cur.t<s.t then s.t else cur.t),H):=fun st H=>by rw [opV_quiet rfl]; simp [evalPure,maxAV]
    have sno:opV G false (MH P (dn++[cur])++[.cells [.str [],.int .i64 0,.int .i64 0]]) (.st 3) (some [.ptr (P.length+2) 0,.agg s.row])=some (.junk,MH P (dn++[cur])++[.cells s.row]):=by rw [op_st,sn0]; rfl
    have so:opV G true (MH P (dn++[cur])++[.cells s.row]) (.st 1) (some [.eptr (P.length+1) (dn.length+1) dn.length 2,.int .i64 (if cur.t<s.t then s.t else cur.t)])=some (.junk,MH P (dn++[⟨cur.p,cur.f,if cur.t<s.t then s.t else cur.t⟩])++[.cells s.row]):=by
     rw [hk]at hout;rw [op_st_eptr (n:=1) hout hrow rfl (by omega) rfl (by simp [Sp.row]) rfl rfl];congr 2
     have:=MH_set (P:=P) (os:=dn++[cur]) (x:=[.cells s.row]) (os':=dn++[⟨cur.p,cur.f,if cur.t<s.t then s.t else cur.t⟩]);rw [hk2]at this;rw [← this];congr 2
     simp [spRows,Sp.row,setAt]
    rw [hk2]at nx;rw [hk];generalize MH P (dn++[cur])=H0 at *;generalize (if cur.t<s.t then s.t else cur.t)=M at *;generalize hH1:MH P (dn++[⟨cur.p,cur.f,M⟩])=H1 at *;generalize dn.length=K at *;simp [hq,hw,ia0,l30,al,sno,ls0,ls20,iao,lo3,lo2,so,mx,wm,g0,cb,-loadAV,-stAV_ptr,-op_bsl,-op_alloc,-Int.natCast_add,-op_st];refine head_of ?_
    rw [cn _ (by simp [junkAll,lowFr,low]; omega)];simpa [Rs.q83] using nx
theorem merge_ok{G:Gam}(hB:G Fn.q74=some (.pure F_beh))(hS:G Fn.q21=some (.gen (F_SortSp Fn.q66))):∀ args h r h',lowL h.length args=true→lowH h.length h=true→F_merge args h=some (r,h')→
  wpM G Mc.q83 (genZLQ h.length Rs.q83 r h') [] (frInit Ks.q83 args) h:=by
 intro args h r h' hla hlow hF
 unfold F_merge at hF
 split at hF
 ·rename_i l ver n
  split at hF
  ·rename_i ver' rows hl
   split at hF
   ·rename_i ps hd
    split at hF
    ·rename_i hc
     obtain ⟨rfl,rfl,hb⟩:=hc;obtain rfl:=spRows_of hd;simp only [Option.some.injEq,Prod.mk.injEq]at hF; obtain ⟨rfl,rfl⟩:=hF;obtain ⟨s1,s2,s3⟩:=sortQ_facts ps;have hlt:l<h.length:=(List.getElem?_eq_some_iff.1 hl).1;have hP:(h.set l (.arr 3 ver (spRows (sortQ ps)) true))[l]?=some (.arr 3 ver (spRows (sortQ ps)) true):=by simp [hlt]
     have hPl:(h.set l (.arr 3 ver (spRows (sortQ ps)) true)).length=h.length:=by simp
     have hPlow:lowH h.length (h.set l (.arr 3 ver (spRows (sortQ ps)) true))=true:=lowH_set hlow rfl;have L0:=merge_L0 hB hP (by rw [hPl]; exact hlt) (by rw [hPl]; exact hPlow) (by rw [s3]; exact hb) (mergeO (sortQ ps)) (sortQ ps) 0 [] .junk .junk rfl (by simp) (by omega) (.inl ⟨rfl,rfl⟩);rw [hPl,s3]at L0;have cs:opV G false (h++[.arr 3 0 [] true]) (.call Fn.q21) (some [.own l ver ps.length,.fn Fn.q66 []])=some (.tup [],h.set l (.arr 3 ver (spRows (sortQ ps)) true)++[.arr 3 0 [] true]):=by
      rw [op_call_gen hS];have hg:(h++[Blk.arr 3 0 [] true])[l]?=some (.arr 3 ver (spRows ps) true):=get_more hl;simp only [F_SortSp,hg,dec_spRows];rw [if_pos ⟨trivial,trivial,trivial,by unfold big; omega⟩,List.set_append_left _ _ hlt]
     have hMH:h.set l (.arr 3 ver (spRows (sortQ ps)) true)++[.arr 3 0 [] true,.arr 3 0 [] true]=MH (h.set l (.arr 3 ver (spRows (sortQ ps)) true)) []:=rfl;generalize h.set l (.arr 3 ver (spRows (sortQ ps)) true)=P at *;rw [wpM_go];simp [Mc.q83,Ks.q83,frInit,cs,hMH,hPl];simpa [MH_len,hPl] using L0
    ·cases hF
   ·cases hF
  ·cases hF
 ·simp only [Option.some.injEq,Prod.mk.injEq]at hF; obtain ⟨rfl,rfl⟩:=hF
  have cs:∀ H:Heap,opV G false H (.call Fn.q21) (some [.nils,.fn Fn.q66 []])=some (.tup [],H):=fun H=>by
   rw [op_call_gen hS]; simp [F_SortSp]
  rw [wpM_go];simp [Mc.q83,Ks.q83,frInit,cs];have q0:ltB 0 0=false:=rfl;refine head_go (Mc.q83_L0.eq_1) ?_
  rw [vtrunc_len (by simp)];simp [genZLQ,LeaveZ,Rs.q83];have hgo:(h++[Blk.arr 3 0 [] true,Blk.arr 3 0 [] true])[h.length+1]?=some (.arr 3 0 [] true):=by rw [List.getElem?_append_right (by simp)]; simp
  refine ⟨h++[.arr 3 0 [] true,.arr 3 0 [] false],?_,leaves_app,hlow⟩
  have hset:(h++[Blk.arr 3 0 [] true,Blk.arr 3 0 [] true]).set (h.length+1) (.arr 3 0 [] false)=h++[.arr 3 0 [] true,.arr 3 0 [] false]:=by
   rw [List.set_append_right _ _ (by simp)]; simp
  simp [frz,view,rowsOf,owns,freezeAll,freeze1,hset]
 ·cases hF
end Go.Proofs.YtpefhfiehfkocaaGreatDoor
namespace Go.Proofs.YtpefhfiehfkocaaGreatDoor
open Go.RowKit Go.IntWalk
def uniE(a b:List Sp):List Sp×Int:=if validO a&&validO b then (joinO a b,0)else ([],1)
def F_lUnion:List AV→Option AV
 | [.sl ra,.sl rb]=>match decAll decSpn ra,decAll decSpn rb with
  | some a,some b=>if okL a=true∧okL b=true∧a.length+b.length≤1000000 then some (.tup [.sl (spRows (uniE a b).1),.int .i64 (uniE a b).2])else none
  | _,_=>none
 | _=>none
theorem F_lUnion_at{a b:List Sp}(ha:okL a=true)(hb:okL b=true)(hn:a.length+b.length≤1000000):F_lUnion [.sl (spRows a),.sl (spRows b)]=some (.tup [.sl (spRows (uniE a b).1),.int .i64 (uniE a b).2]):=by
 simp only [F_lUnion,dec_spRows]; rw [if_pos ⟨ha,hb,hn⟩]
theorem valid_ok{l:List Sp}(h:validO l=true)(hn:l.length≤1000000):okL l=true:=by
 have h1:=(valid_iff.1 h).1
 simp only [okL,Bool.and_eq_true,decide_eq_true_eq,List.all_eq_true]
 refine ⟨hn,fun s hs=>?_⟩
 have:=path_len ((spanO_iff.1 (h1 s hs)).2)
 simp [okS]; omega
theorem join_sortQ{a b:List Sp}(ha:validO a=true)(hb:validO b=true):mergeO (sortQ (a++b))=joinO a b:=
 (merge_join ha hb (sortQ_facts _).1 (sortQ_facts _).2.1).1
theorem join_len{a b:List Sp}(ha:validO a=true)(hb:validO b=true):(joinO a b).length≤a.length+b.length:=by
 have h1:=mergeO_len (sortQ (a++b))
 rw [join_sortQ ha hb,(sortQ_facts _).2.2,List.length_append]at h1
 exact h1
attribute [local congr] ite_congr
theorem lUnion_ok{G:Gam}(hV:G Fn.q81=some (.pure F_lValid))(hC:G Fn.q26=some (.gen F_Concat2))(hM:G Fn.q83=some (.gen F_merge)):∀ args r,F_lUnion args=some r→
  wpM G Mc.q82 (pureQ Rs.q82 r) [] (frInit Ks.q82 args) []:=by
 intro args r hF
 unfold F_lUnion at hF
 split at hF
 ·split at hF
  ·rename_i a b hda hdb
   split at hF
   ·rename_i hc
    injection hF with hF; subst hF
    obtain ⟨ha,hb,hn⟩:=hc;obtain rfl:=spRows_of hda;obtain rfl:=spRows_of hdb;have va:=use_lValid hV ha;have vb:=use_lValid hV hb;have ro:rowsOf [Blk.arr 3 0 [] true,Blk.arr 3 0 [] true] (.own 1 0 0)=some []:=rfl;rw [wpM_go];cases ca:validO a with
    | false=>
     rw [ca]at va;have e:uniE a b=([],1):=by simp [uniE,ca]
     rw [e];generalize spRows a=RA at *;generalize spRows b=RB at *;simp [Mc.q82,Ks.q82,frInit,va,ro,pureQ,Rs.q82,spRows]
    | true=>
     rw [ca]at va;cases cb:validO b with
     | false=>
      rw [cb]at vb;have e:uniE a b=([],1):=by simp [uniE,cb]
      rw [e];generalize spRows a=RA at *;generalize spRows b=RB at *;simp [Mc.q82,Ks.q82,frInit,va,vb,ro,pureQ,Rs.q82,spRows]
     | true=>
      rw [cb]at vb;have e:uniE a b=(joinO a b,0):=by simp [uniE,ca,cb]
      rw [e];have bs:∀ st h,opV G st h (.bsl false 1) (some [.sl (spRows a),.sl (spRows b)])=some (.tsl [[.sl (spRows a)],[.sl (spRows b)]],h):=fun st h=>by rw [op_bsl rfl]; rfl
      have hj:=join_sortQ ca cb;by_cases he:a++b=[]
      ·have hj0:joinO a b=[]:=by
        have:=join_len ca cb;rw [← List.length_append,he]at this;exact List.length_eq_zero_iff.1 (by simpa using this)
       have cC:opV G false [.arr 3 0 [] true] (.call Fn.q26) (some [.tsl [[.sl (spRows a)],[.sl (spRows b)]]])=some (.nils,[.arr 3 0 [] true,.arr 3 0 [] true]):=by
        rw [op_call_gen hC]; simp only [F_Concat2,dec_spRows]; rw [if_pos hn,if_pos he]; rfl
       have cM:∀ H,opV G false H (.call Fn.q83) (some [.nils])=some (.sl [],H):=fun H=>by rw [op_call_gen hM]; rfl
       rw [hj0];generalize spRows a=RA at *;generalize spRows b=RB at *;simp [Mc.q82,Ks.q82,frInit,va,vb,bs,cC,cM,pureQ,Rs.q82,spRows,-op_bsl]
      ·have cC:opV G false [.arr 3 0 [] true] (.call Fn.q26) (some [.tsl [[.sl (spRows a)],[.sl (spRows b)]]])=some (.own 2 (a++b).length (a++b).length,[.arr 3 0 [] true,.arr 3 0 [] true,.arr 3 (a++b).length (spRows (a++b)) true]):=by
        rw [op_call_gen hC]; simp only [F_Concat2,dec_spRows]; rw [if_pos hn,if_neg he]; rfl
       have cM:opV G false [.arr 3 0 [] true,.arr 3 0 [] true,.arr 3 (a++b).length (spRows (a++b)) true] (.call Fn.q83) (some [.own 2 (a++b).length (a++b).length])=some (.sl (spRows (joinO a b)),[.arr 3 0 [] true,.arr 3 0 [] true,.arr 3 (a++b).length (spRows (sortQ (a++b))) true]):=by
        rw [op_call_gen hM];simp only [F_merge,List.getElem?_cons_succ,List.getElem?_cons_zero,dec_spRows];rw [if_pos ⟨trivial,trivial,by rw [List.length_append]; exact hn⟩,hj]; rfl
       generalize (a++b).length=N at *;generalize spRows (sortQ (a++b))=RS at *;generalize spRows (a++b)=RAB at *;generalize spRows a=RA at *;generalize spRows b=RB at *;simp [Mc.q82,Ks.q82,frInit,va,vb,bs,cC,cM,pureQ,Rs.q82,-op_bsl]
   ·cases hF
  ·cases hF
 ·cases hF
def oValid(o:Org):Bool:=validO o.inn&&validO o.by_&&validO o.lst
def F_oValid:List AV→Option AV
 | [.agg cs]=>match decOrg cs with
  | some o=>if okO o=true then some (.bool (oValid o))else none
  | none=>none
 | _=>none
theorem use_oValid{G:Gam}{f:FuncId}(h:G f=some (.pure F_oValid)){o:Org}(ho:okO o=true)(st:Bool)(H:Heap):opV G st H (.call f) (some [.agg o.cells])=some (.bool (oValid o),H):=
 op_call h (us:=[.agg o.cells]) (by simp [Org.cells,viewL,view]) (by simp only [F_oValid,decOrg_cells]; rw [if_pos ho]) (.inl rfl)
theorem oValid_ok{G:Gam}(hV:G Fn.q81=some (.pure F_lValid)):∀ args r,F_oValid args=some r→wpM G Mc.q87 (pureQ Rs.q87 r) [] (frInit Ks.q87 args) []:=by
 intro args r hF
 unfold F_oValid at hF
 split at hF
 ·split at hF
  ·rename_i cs o ho
   split at hF
   ·rename_i hok
    injection hF with hF; subst hF
    obtain rfl:=decOrg_of ho;obtain ⟨k1,k2,k3⟩:=okO_of hok;have ob:=fun st=>box_org (G:=G) o st []
    have p0:∀ tl:Heap,loadAV 1 false (.cells o.cells::tl) (.ptr 0 0)=some (.sl (spRows o.inn)):=fun tl=>ld_cell (l:=0) rfl rfl
    have p1:∀ tl:Heap,loadAV 1 false (.cells o.cells::tl) (.ptr 0 1)=some (.sl (spRows o.by_)):=fun tl=>ld_cell (l:=0) rfl rfl
    have p2:∀ tl:Heap,loadAV 1 false (.cells o.cells::tl) (.ptr 0 2)=some (.sl (spRows o.lst)):=fun tl=>ld_cell (l:=0) rfl rfl
    have v1:=use_lValid hV k1;have v2:=use_lValid hV k2;have v3:=use_lValid hV k3;rw [wpM_go];unfold oValid;simp at ob;generalize o.cells=cs at *;cases c1:validO o.inn <;> rw [c1]at v1 <;> cases c2:validO o.by_ <;> rw [c2]at v2 <;> cases c3:validO o.lst <;> rw [c3]at v3 <;>
     simp [Mc.q87,Ks.q87,frInit,ob,p0,p1,p2,v1,v2,v3,pureQ,Rs.q87,-loadAV]
   ·cases hF
  ·cases hF
 ·cases hF
end Go.Proofs.YtpefhfiehfkocaaGreatDoor
namespace Go.Proofs.YtpefhfiehfkocaaGreatDoor
open Go.RowKit Go.IntWalk
def setRow(l:List Sp):List AV:=[.sl (spRows l)]
def decSet:List AV→Option (List Sp)
 | [.sl r]=>decAll decSpn r
 | _=>none
@[simp] theorem decSet_row(l:List Sp):decSet (setRow l)=some l:=by simp [decSet,setRow]
theorem decSet_of{r:List AV}{l:List Sp}(h:decSet r=some l):r=setRow l:=by
 unfold decSet at h; split at h
 ·rw [spRows_of h]; rfl
 ·cases h
def joinL:List Sp→List (List Sp)→List Sp
 | acc,[]=>acc
 | acc,l::r=>joinL (joinO acc l) r
def sumL:List (List Sp)→Nat
 | []=>0
 | l::r=>l.length+sumL r
def F_oUnion:List AV→Option AV
 | [.sl rows]=>match decAll decSet rows with
  | some L=>if (L.all validO)=true∧sumL L≤1000000∧L.length≤100 then some (.sl (spRows (joinL [] L)))else none
  | none=>none
 | _=>none
theorem joinL_facts:∀ (L:List (List Sp)) (acc:List Sp),validO acc=true→(L.all validO)=true→
  validO (joinL acc L)=true∧(joinL acc L).length≤acc.length+sumL L∧∀ x,hasO (joinL acc L) x=(hasO acc x||L.any fun l=>hasO l x)
 | [],acc,h,_=>⟨h,by simp [joinL,sumL],fun x=>by simp [joinL]⟩
 | l::r,acc,h,hl=>by
  simp only [List.all_cons,Bool.and_eq_true]at hl;obtain ⟨j1,j2⟩:=join_valid h hl.1;have j3:=join_len h hl.1;obtain ⟨q1,q2,q3⟩:=joinL_facts r (joinO acc l) j1 hl.2;refine ⟨q1,by simp only [joinL,sumL]; omega,fun x=>?_⟩
  simp only [joinL,List.any_cons];rw [q3,j2,Bool.or_assoc]
abbrev P33(b:Bool):Heap:=[.arr 3 0 [] true,.arr 3 0 [] b]
theorem setR_get{L:List (List Sp)}{i:Nat}{l:List Sp}(h:L[i]?=some l):(L.map setRow)[i]?=some (setRow l):=by simp [h]
theorem oUnion_L0{G:Gam}(hU:G Fn.q82=some (.pure F_lUnion))(L:List (List Sp))(hL:L.length≤100)(R:List Sp):∀ (rest:List (List Sp)) (i:Nat) (acc:List Sp) (b:Bool) (X:AV) (_:AV),L.drop i=rest→i≤L.length→
  (X=.sl (spRows acc)∨(X=.own 1 0 0∧acc=[]))→validO acc=true→(rest.all validO)=true→acc.length+sumL rest≤1000000→R=joinL acc rest→
  headM G [5] Mc.q88_L0 2 [.blk 0,.seq (.seq (.reg [zm 19 3,zM 2 19]) .ret)] (pureQ Rs.q88 (.sl (spRows R)))
   [(0,.sl (L.map setRow)),(2,.own 0 0 0),(3,X),(5,.junk),(6,.sl (L.map setRow)),(7,.int .i64 L.length),(8,.int .i64 i)] (P33 b)
 | [],i,acc,b,X,v5,hd,hi,hX,ha,hr,hs,hR=>by
  have hi2:=drop_nil hd;have hq:ltB (i:Int) (L.length:Int)=false:=ltB_not.2 (by omega);simp only [joinL]at hR;subst hR;have hv:view (P33 b) X=some (.sl (spRows R)):=by
   rcases hX with rfl | ⟨rfl,rfl⟩
   ·rfl
   ·rfl
  refine head_go (Mc.q88_L0.eq_1) ?_
  rw [vtrunc_len (n:=2) rfl];simp [hq,hv,pureQ,Rs.q88]
 | l::rest,i,acc,b,X,v5,hd,hi,hX,ha,hr,hs,hR=>by
  obtain ⟨hlt,hx,hxd⟩:=drop_cons hd;simp only [List.all_cons,Bool.and_eq_true]at hr;simp only [sumL]at hs;have hq:ltB (i:Int) (L.length:Int)=true:=ltB_iff.2 (by omega);have hw:=wrap1 (i:=i) (by unfold big; omega);have hg:=setR_get hx;have ia:∀ H,iadrAV 1 H (.sl (L.map setRow)) (.int .i64 (i:Int))=some (.fptr (setRow l) 0):=fun H=>by
   have:(setRow l).length=1:=rfl;simp [iadrAV,hg,this]
  have l1:∀ H,loadAV 1 false H (.fptr (setRow l) 0)=some (.sl (spRows l)):=fun H=>by simp [loadAV,cut,mkVal,setRow]
  have hu:=F_lUnion_at (valid_ok ha (by omega)) (valid_ok hr.1 (by omega)) (a:=acc) (b:=l) (by omega);have hun:uniE acc l=(joinO acc l,0):=by simp [uniE,ha,hr.1]
  rw [hun]at hu;have hj:=(join_valid ha hr.1).1;have hjl:=join_len ha hr.1;have next:=fun b'=>oUnion_L0 hU L hL R rest (i+1) (joinO acc l) b' (.sl (spRows (joinO acc l))) .junk hxd (by omega) (.inl rfl) hj hr.2 (by omega) hR
  obtain ⟨b',hc⟩:∃ b',opV G false (P33 b) (.call Fn.q82) (some [X,.sl (spRows l)])=some (.tup [.sl (spRows (joinO acc l)),.int .i64 0],P33 b'):=by
   rcases hX with rfl | ⟨rfl,rfl⟩
   ·exact ⟨b,op_call hU (us:=[.sl (spRows acc),.sl (spRows l)]) rfl hu (.inr rfl)⟩
   ·refine ⟨false,?_⟩
    rw [op_call_frz hU (us:=[.sl (spRows []),.sl (spRows l)]) rfl hu rfl];rfl
  have nx:=next b'
  have vt:∀ fr,trunc 2 fr (P33 b')=P33 b':=fun fr=>vtrunc_len rfl
  refine head_go (Mc.q88_L0.eq_1) ?_
  rw [vtrunc_len (n:=2) rfl];generalize P33 b=H0 at *;generalize P33 b'=H1 at *;simp [hq,ia,l1,hc,hw,-loadAV];refine head_of ?_
  rw [vt];simpa [Rs.q88] using nx
theorem oUnion_ok{G:Gam}(hU:G Fn.q82=some (.pure F_lUnion)):∀ args r,F_oUnion args=some r→wpM G Mc.q88 (pureQ Rs.q88 r) [] (frInit Ks.q88 args) []:=by
 intro args r hF
 unfold F_oUnion at hF
 split at hF
 ·split at hF
  ·rename_i L hd
   split at hF
   ·rename_i hc
    injection hF with hF; subst hF
    obtain ⟨h1,h2,h3⟩:=hc;obtain rfl:=decAll_of (enc:=setRow) (fun r x=>decSet_of) hd;have L0:=oUnion_L0 hU L h3 (joinL [] L) L 0 [] true (.own 1 0 0) .junk rfl (by omega) (.inr ⟨rfl,rfl⟩) rfl h1 (by simpa using h2) rfl;rw [wpM_go];simp [Mc.q88,Ks.q88,frInit];simpa using L0
   ·cases hF
  ·cases hF
 ·cases hF
theorem use_oUnion{G:Gam}(h:G Fn.q88=some (.pure F_oUnion)){L:List (List Sp)}(h1:(L.all validO)=true)(h2:sumL L≤1000000)(h3:L.length≤100)(st:Bool)(H:Heap):opV G st H (.call Fn.q88) (some [.tsl (L.map setRow)])=some (.sl (spRows (joinL [] L)),H):=
 op_call h (us:=[.sl (L.map setRow)]) rfl (by
  have:decAll decSet (L.map setRow)=some L:=decAll_enc decSet_row L;simp only [F_oUnion,this]; rw [if_pos ⟨h1,h2,h3⟩]) (.inr rfl)
end Go.Proofs.YtpefhfiehfkocaaGreatDoor
namespace Go.Proofs.YtpefhfiehfkocaaGreatDoor
open Go.RowKit Go.IntWalk
theorem valid_ext{l m:List Sp}(hl:validO l=true)(hm:validO m=true)(h:∀ x,hasO l x=hasO m x):l=m:=canon_ext (valid_iff.1 hl).2 (valid_iff.1 hm).2 h
theorem joinL_one{a:List Sp}(ha:validO a=true):joinL [] [a]=a:=by
 obtain ⟨h1,_,h3⟩:=joinL_facts [a] [] rfl (by simp [ha])
 exact valid_ext h1 ha fun x=>by rw [h3]; simp [hasO]
theorem joinL_two{a b:List Sp}(ha:validO a=true)(hb:validO b=true):joinL [] [a,b]=joinO a b:=by
 obtain ⟨h1,_,h3⟩:=joinL_facts [a,b] [] rfl (by simp [ha,hb])
 obtain ⟨j1,j2⟩:=join_valid ha hb
 exact valid_ext h1 j1 fun x=>by rw [h3,j2]; simp [hasO]
theorem joinL_three{a b c:List Sp}(ha:validO a=true)(hb:validO b=true)(hc:validO c=true):joinL [] [a,b,c]=joinO a (joinO b c):=by
 obtain ⟨h1,_,h3⟩:=joinL_facts [a,b,c] [] rfl (by simp [ha,hb,hc])
 obtain ⟨j1,j2⟩:=join_valid hb hc
 obtain ⟨k1,k2⟩:=join_valid ha j1
 exact valid_ext h1 k1 fun x=>by rw [h3,k2,j2]; simp [hasO]
def oNil:Org:=⟨[],[],[]⟩
def unE(a b:Org):Org×Int:=if oValid a&&oValid b then (⟨joinO a.inn b.inn,joinO a.by_ b.by_,joinO a.lst b.lst⟩,0)else (oNil,1)
def linE(o:Org):List Sp:=joinO o.inn (joinO o.by_ o.lst)
def becE(o:Org)(r:Int):Org:=if r=2 then ⟨[],linE o,[]⟩else if r=3 then ⟨[],o.by_,joinO o.inn o.lst⟩else o
def thrE(o:Org)(r:Int):Org×Int:=if oValid o then (if r<1∨3<r then (oNil,3)else (becE o r,0))else (oNil,1)
def smO(o:Org):Bool:=okO o&&decide (o.inn.length≤100000)&&decide (o.by_.length≤100000)&&decide (o.lst.length≤100000)
theorem smO_of{o:Org}(h:smO o=true):okO o=true∧o.inn.length≤100000∧o.by_.length≤100000∧o.lst.length≤100000:=by
 simpa [smO,and_assoc] using h
def F_oUn:List AV→Option AV
 | [.agg ca,.agg cb]=>match decOrg ca,decOrg cb with
  | some a,some b=>if smO a=true∧smO b=true then some (.tup [.agg (unE a b).1.cells,.int .i64 (unE a b).2])else none
  | _,_=>none
 | _=>none
def F_oThr:List AV→Option AV
 | [.agg ca,.int .i64 r]=>match decOrg ca with
  | some a=>if smO a=true then some (.tup [.agg (thrE a r).1.cells,.int .i64 (thrE a r).2])else none
  | _=>none
 | _=>none
theorem oValid_of{o:Org}(h:oValid o=true):validO o.inn=true∧validO o.by_=true∧validO o.lst=true:=by
 simpa [oValid,and_assoc] using h
theorem ldOrg(H:Heap){l:Nat}{o:Org}(h:H[l]?=some (.cells o.cells)):loadAV 3 true H (.ptr l 0)=some (.agg o.cells):=ld_all h rfl
theorem nilCells:oNil.cells=[.sl [],.sl [],.sl []]:=rfl
theorem oUn_ok{G:Gam}(hV:G Fn.q87=some (.pure F_oValid))(hU:G Fn.q88=some (.pure F_oUnion)):∀ args r,F_oUn args=some r→wpM G Mc.q85 (pureQ Rs.q85 r) [] (frInit Ks.q85 args) []:=by
 intro args r hF
 unfold F_oUn at hF
 split at hF
 ·split at hF
  ·rename_i ca cb a b ha hb
   split at hF
   ·rename_i hok
    injection hF with hF; subst hF
    obtain rfl:=decOrg_of ha;obtain rfl:=decOrg_of hb;obtain ⟨a1,a2,a3,a4⟩:=smO_of hok.1;obtain ⟨b1,b2,b3,b4⟩:=smO_of hok.2;have ob:=fun st=>box_org (G:=G) a st []
    have ob2:=fun st=>box_org (G:=G) b st [.cells a.cells]
    have la:∀ x y:Blk,loadAV 3 true [.cells a.cells,x,y] (.ptr 0 0)=some (.agg a.cells):=fun x y=>ldOrg _ rfl
    have lb:∀ y:Blk,loadAV 3 true [.cells a.cells,.cells b.cells,y] (.ptr 1 0)=some (.agg b.cells):=fun y=>ldOrg _ rfl
    have pa0:∀ tl:Heap,loadAV 1 false (.cells a.cells::tl) (.ptr 0 0)=some (.sl (spRows a.inn)):=fun tl=>ld_cell (l:=0) rfl rfl
    have pa1:∀ tl:Heap,loadAV 1 false (.cells a.cells::tl) (.ptr 0 1)=some (.sl (spRows a.by_)):=fun tl=>ld_cell (l:=0) rfl rfl
    have pa2:∀ tl:Heap,loadAV 1 false (.cells a.cells::tl) (.ptr 0 2)=some (.sl (spRows a.lst)):=fun tl=>ld_cell (l:=0) rfl rfl
    have pb0:∀ tl:Heap,loadAV 1 false (.cells a.cells::.cells b.cells::tl) (.ptr 1 0)=some (.sl (spRows b.inn)):=fun tl=>ld_cell (l:=1) rfl rfl
    have pb1:∀ tl:Heap,loadAV 1 false (.cells a.cells::.cells b.cells::tl) (.ptr 1 1)=some (.sl (spRows b.by_)):=fun tl=>ld_cell (l:=1) rfl rfl
    have pb2:∀ tl:Heap,loadAV 1 false (.cells a.cells::.cells b.cells::tl) (.ptr 1 2)=some (.sl (spRows b.lst)):=fun tl=>ld_cell (l:=1) rfl rfl
    have va:=use_oValid hV a1;have vb:=use_oValid hV b1;rw [wpM_go];simp at ob ob2;cases ca:oValid a with
    | false=>
     rw [ca]at va;have e:unE a b=(oNil,1):=by simp [unE,ca]
     rw [e,nilCells];generalize a.cells=CA at *;generalize b.cells=CB at *;simp [Mc.q85,Ks.q85,frInit,ob,ob2,la,va,bldAV,pureQ,Rs.q85,-loadAV];simp [loadAV,cut,mkVal]
    | true=>
     rw [ca]at va;cases cb:oValid b with
     | false=>
      rw [cb]at vb;have e:unE a b=(oNil,1):=by simp [unE,cb]
      rw [e,nilCells];generalize a.cells=CA at *;generalize b.cells=CB at *;simp [Mc.q85,Ks.q85,frInit,ob,ob2,la,lb,va,vb,bldAV,pureQ,Rs.q85,-loadAV];simp [loadAV,cut,mkVal]
     | true=>
      rw [cb]at vb;obtain ⟨x1,x2,x3⟩:=oValid_of ca;obtain ⟨y1,y2,y3⟩:=oValid_of cb;have e:unE a b=(⟨joinO a.inn b.inn,joinO a.by_ b.by_,joinO a.lst b.lst⟩,0):=by simp [unE,ca,cb]
      have bs:∀ (x y:List (List AV)) st h,opV G st h (.bsl false 1) (some [.sl x,.sl y])=some (.tsl [[.sl x],[.sl y]],h):=fun x y st h=>by rw [op_bsl rfl]; rfl
      have u1:=use_oUnion hU (L:=[a.inn,b.inn]) (by simp [x1,y1]) (by simp [sumL]; omega) (by simp);have u2:=use_oUnion hU (L:=[a.by_,b.by_]) (by simp [x2,y2]) (by simp [sumL]; omega) (by simp);have u3:=use_oUnion hU (L:=[a.lst,b.lst]) (by simp [x3,y3]) (by simp [sumL]; omega) (by simp);rw [joinL_two x1 y1]at u1;rw [joinL_two x2 y2]at u2;rw [joinL_two x3 y3]at u3;simp only [List.map_cons,List.map_nil,setRow]at u1 u2 u3;rw [e];simp only [Org.cells];rw [show [AV.sl (spRows a.inn),.sl (spRows a.by_),.sl (spRows a.lst)]=a.cells from rfl,show [AV.sl (spRows b.inn),.sl (spRows b.by_),.sl (spRows b.lst)]=b.cells from rfl];generalize a.cells=CA at *;generalize b.cells=CB at *;generalize spRows (joinO a.inn b.inn)=R1 at *;generalize spRows (joinO a.by_ b.by_)=R2 at *;generalize spRows (joinO a.lst b.lst)=R3 at *;simp [Mc.q85,Ks.q85,frInit,ob,ob2,la,lb,pa0,pa1,pa2,pb0,pb1,pb2,va,vb,bs,u1,u2,u3,bldAV,pureQ,Rs.q85,-loadAV,-op_bsl];simp [loadAV,cut,mkVal]
   ·cases hF
  ·cases hF
 ·cases hF
end Go.Proofs.YtpefhfiehfkocaaGreatDoor
