/- What the rows' readings say of the arguments,as abstract values; what the rows lay of package-level variables. -/
import Derived.Test.YtpefhfiehfkocaaGreatDoorOS
import Derived.Test.YtpefhfiehfkocaaGreatDoorRwA
import Derived.WalkKit
import Derived.Lib.LaidTab
namespace Go.Proofs.YtpefhfiehfkocaaGreatDoor
open Go.RowKit Go.WideShapes
theorem u9:Tryz.prog.underlying 9=some .string:=by kernel_rfl
theorem u3:Tryz.prog.underlying 3=some (.int .i64):=by kernel_rfl
theorem fl9:flatT Tryz.prog 8 9=true:=by kernel_rfl
theorem uLs:Tryz.prog.underlying 23=some (.slice 58):=by kernel_rfl
theorem sSp:∃ f0 f1 f2,Tryz.prog.underlying 58=some (.struct #[f0,f1,f2])∧f0.type=9∧f1.type=3∧f2.type=3:=⟨_,_,_,Tryz.underlying58,rfl,rfl,rfl⟩
theorem sOrg:∃ f0 f1 f2,Tryz.prog.underlying 25=some (.struct #[f0,f1,f2])∧f0.type=23∧f1.type=23∧f2.type=23:=⟨_,_,_,Tryz.underlying25,rfl,rfl,rfl⟩
theorem uOs:Tryz.prog.underlying 26=some (.slice 25):=by kernel_rfl
theorem flOs:flatT Tryz.prog 8 26=true:=by kernel_rfl
theorem flOrg:flatT Tryz.prog 8 25=true:=by kernel_rfl
set_option maxRecDepth 100000 in
theorem maxLen_holds{W:World}(h:W.ShapedOpen Tryz.prog):∃ m,W.cell? ⟨0,0,none⟩=some (.int .i64 m):=by
 obtain ⟨cs,h1,h2,h3⟩:=h.1 0 #[.int .i64 0] 3 (of_decide_eq_true (by kernel_rfl)) (by kernel_rfl)
 obtain ⟨ts,k1,k2,k3⟩:=h3 (by kernel_rfl)
 have hts:ts=[3]:=Option.some.inj (k1.symm.trans (show Tryz.prog.cellTypes Tryz.prog.depth 3=some [3]by kernel_rfl))
 subst hts
 have hs:cs.size=1:=h2
 obtain ⟨u,q1,q2⟩:=k3 0 (cs[0]'(by omega)) (by simp)
 simp at q1; subst q1
 generalize hv:cs[0]'(by omega)=v at q2
 have:∃ m,v=.int .i64 m:=by
  unfold Cell.ok at q2;rw [u3]at q2;cases v <;> simp at q2
  rename_i k n;exact ⟨n,by rw [q2.1]⟩
 obtain ⟨m,rfl⟩:=this
 refine ⟨m,?_⟩
 rw [cell_of_heap h1]
 simp [hs,hv]
section
variable {H:Type} {enc:TypeId×Value→H} {w:World} {base:Nat} {spare:Nat→Bool} {held:Bool}
theorem of_str{fuel:Nat}{cs:List Value}{x:DataW H×List MemPlace}(h:DataW.trod enc Tryz.prog w base spare held fuel 9 cs=some x):∃ s:Bs,x.1=.lit (.string s):=by
 obtain ⟨s,_,rfl,_⟩:=DataW.trod_string u9 h
 exact ⟨_,rfl⟩
theorem of_strB{fuel:Nat}{cs:List Value}{x:DataW H×List MemPlace}(h:DataW.trod enc Tryz.prog w base spare held fuel 9 cs=some x)(hb:Rows.uptoBulk x.1≤1048576):∃ s:Bs,x.1=.lit (.string s)∧s.length<big:=by
 obtain ⟨s,hs⟩:=of_str h
 refine ⟨s,hs,?_⟩
 rw [hs]at hb
 simp [Rows.uptoBulk]at hb
 unfold big; omega
theorem of_list{α:Type}{e:TypeId}{P:Program}{row:α→List AV}{Q:α→Nat→Prop}(hQ:∀ a n m,n≤m→Q a n→Q a m)
  (one:∀ (fuel:Nat) (cs:List Value) (x:DataW H×List MemPlace),DataW.trod enc P w base spare held fuel e cs=some x→∃ a,cellsD x.1=row a∧Q a (Rows.uptoBulk x.1)) :
  ∀ (ys:List (DataW H×List MemPlace)),(∀ y∈ys,∃ fuel cs,DataW.trod enc P w base spare held fuel e cs=some y)→∃ xs:List α,rowsD (ys.map (·.1))=xs.map row∧xs.length=ys.length∧∀ a∈xs,Q a (Rows.uptoBulkAll (ys.map (·.1)))
 | [],_=>⟨[],by simp [rowsD],rfl,by simp⟩
 | y::ys,h=>by
  obtain ⟨fuel,cs,hy⟩:=h y (by simp);obtain ⟨a,h1,h2⟩:=one fuel cs y hy;obtain ⟨xs,h3,h4,h5⟩:=of_list hQ one ys (fun z hz=>h z (by simp [hz]));refine ⟨a::xs,by simp [rowsD,h1,h3],by simp [h4],fun b hb=>?_⟩
  simp only [List.map_cons,Rows.uptoBulkAll];rcases List.mem_cons.1 hb with rfl | hb
  ·exact hQ _ _ _ (by omega) h2
  ·exact hQ _ _ _ (by omega) (h5 b hb)
theorem each_of{e:TypeId}{P:Program}{n len:Nat}{a:Addr}{elems:List (DataW H×List MemPlace)}(hlen:elems.length=len)
  (hel:∀ i,i<len→(w.cells? base (a.add (i*P.cellsOf e)) (P.cellsOf e)).bind (DataW.trod enc P w base spare held n e)=elems[i]?):∀ y∈elems,∃ fuel cs,DataW.trod enc P w base spare held fuel e cs=some y:=by
 intro y hy
 obtain ⟨i,hi⟩:=List.mem_iff_getElem?.1 hy
 have hlt:i<len:=by rw [← hlen]; exact (List.getElem?_eq_some_iff.1 hi).1
 have:=hel i hlt
 rw [hi]at this
 obtain ⟨cs,_,h2⟩:=Option.bind_eq_some_iff.1 this
 exact ⟨n,cs,h2⟩
theorem of_int{fuel:Nat}{cs:List Value}{x:DataW H×List MemPlace}(h:DataW.trod enc Tryz.prog w base spare held fuel 3 cs=some x):∃ n:Int,x.1=.lit (.int .i64 n):=by
 obtain ⟨n,_,rfl,_⟩:=DataW.trod_int u3 h
 exact ⟨n,rfl⟩
theorem of_span{fuel:Nat}{cs:List Value}{x:DataW H×List MemPlace}(h:DataW.trod enc Tryz.prog w base spare held fuel 58 cs=some x) :
  ∃ s:Sp,cellsD x.1=s.row∧s.p.length+4≤Rows.uptoBulk x.1:=by
 obtain ⟨f0,f1,f2,hu,e0,e1,e2⟩:=sSp
 obtain ⟨xs,n,_,rfl,_,hlen,hf⟩:=DataW.trod_struct hu h
 match xs,hlen with
 | [y0,y1,y2],_=>
  have h0:=hf 0 f0 rfl;have h1:=hf 1 f1 rfl;have h2:=hf 2 f2 rfl;rw [e0]at h0; rw [e1]at h1; rw [e2]at h2;obtain ⟨s0,d0⟩:=of_str (x:=y0) (by simpa using h0);obtain ⟨n1,d1⟩:=of_int (x:=y1) (by simpa using h1);obtain ⟨n2,d2⟩:=of_int (x:=y2) (by simpa using h2);refine ⟨⟨s0,n1,n2⟩,?_,?_⟩
  ·simp [cellsD,flatD,d0,d1,d2,Sp.row]
  ·simp [Rows.uptoBulk,Rows.uptoBulkAll,d0,d1,d2]
theorem two_all{l:List (DataW H)}(h:∀ d∈l,2≤Rows.uptoBulk d):2*l.length≤Rows.uptoBulkAll l:=by
 induction l with
 | nil=>simp
 | cons x r ih=>
  have h1:=h x (by simp);have h2:=ih fun d hd=>h d (by simp [hd])
  simp only [Rows.uptoBulkAll,List.length_cons]; omega
theorem of_lines{fuel:Nat}{cs:List Value}{x:DataW H×List MemPlace}(h:DataW.trod enc Tryz.prog w base spare held fuel 23 cs=some x) :
  ∃ l:List Sp,cellsD x.1=[.sl (spRows l)]∧2*l.length≤Rows.uptoBulk x.1∧∀ s∈l,s.p.length≤Rows.uptoBulk x.1:=by
 rcases DataW.trod_slice uLs h with ⟨_,rfl⟩ | ⟨a,len,cap,elems,rest,n,_,_,rfl,_,_,_,hlen,hel,_,_⟩
 ·exact ⟨[],by simp [cellsD,spRows],by simp,by simp⟩
 ·have hea:=each_of hlen hel
  obtain ⟨l,h1,h2,h3⟩:=of_list (row:=Sp.row) (Q:=fun s n=>s.p.length+4≤n) (fun _ _ _ h k=>Nat.le_trans k h) (fun fuel cs x h=>of_span h) elems hea;have hb2:=bulks.slice_elems (elems.map (·.1)) (rest.map (·.1));have h4:∀ d∈elems.map (·.1),2≤Rows.uptoBulk d:=fun d hd=>by
   obtain ⟨y,hy,rfl⟩:=List.mem_map.1 hd;obtain ⟨fuel,cs,hc⟩:=hea y hy;obtain ⟨s,_,hs⟩:=of_span hc;omega
  have h5:=two_all h4;refine ⟨l,by simp [cellsD,h1,spRows],?_,fun t ht=>?_⟩
  ·simp at h5 hb2 ⊢; omega
  ·have:=h3 t ht; simp only at hb2 ⊢; omega
theorem of_orgQ{fuel:Nat}{cs:List Value}{x:DataW H×List MemPlace}(h:DataW.trod enc Tryz.prog w base spare held fuel 25 cs=some x) :
  ∃ o:Org,cellsD x.1=o.cells∧2≤Rows.uptoBulk x.1∧(Rows.uptoBulk x.1≤1048576→okO o=true):=by
 obtain ⟨f0,f1,f2,hu,e0,e1,e2⟩:=sOrg
 obtain ⟨xs,n,_,rfl,_,hlen,hf⟩:=DataW.trod_struct hu h
 match xs,hlen with
 | [y0,y1,y2],_=>
  have h0:=hf 0 f0 rfl;have h1:=hf 1 f1 rfl;have h2:=hf 2 f2 rfl;rw [e0]at h0; rw [e1]at h1; rw [e2]at h2;obtain ⟨l0,d0,a0,b0⟩:=of_lines (x:=y0) (by simpa using h0);obtain ⟨l1,d1,a1,b1⟩:=of_lines (x:=y1) (by simpa using h1);obtain ⟨l2,d2,a2,b2⟩:=of_lines (x:=y2) (by simpa using h2);have ok:∀ (l:List Sp) (n:Nat),n≤1048576→2*l.length≤n→(∀ s∈l,s.p.length≤n)→okL l=true:=fun l n hn h1 h2=>by
   unfold okL okS;simp only [Bool.and_eq_true,decide_eq_true_eq,List.all_eq_true];exact ⟨by omega,fun s hs=>by have:=h2 s hs; omega⟩
  have one:∀ y:DataW H,1≤Rows.uptoBulk y:=fun y=>by
   unfold Rows.uptoBulk; split <;> omega
  have o0:=one y0.1;refine ⟨⟨l0,l1,l2⟩,by simp [cellsD,flatD,d0,d1,d2,Org.cells],by simp [Rows.uptoBulk,Rows.uptoBulkAll]; omega,fun hb=>?_⟩
  have hb':Rows.uptoBulk y0.1+(Rows.uptoBulk y1.1+Rows.uptoBulk y2.1)≤1048576:=by
   simp [Rows.uptoBulk,Rows.uptoBulkAll]at hb; omega
  simp only [okO,Bool.and_eq_true];exact ⟨⟨ok l0 _ (by omega) a0 b0,ok l1 _ (by omega) a1 b1⟩,ok l2 _ (by omega) a2 b2⟩
theorem of_org{fuel:Nat}{cs:List Value}{x:DataW H×List MemPlace}(h:DataW.trod enc Tryz.prog w base spare held fuel 25 cs=some x)(hb:Rows.uptoBulk x.1≤1048576) :
  ∃ o:Org,cellsD x.1=o.cells∧okO o=true:=by
 obtain ⟨o,h1,_,h2⟩:=of_orgQ h
 exact ⟨o,h1,h2 hb⟩
theorem of_orgs{fuel:Nat}{cs:List Value}{x:DataW H×List MemPlace}(h:DataW.trod enc Tryz.prog w base spare held fuel 26 cs=some x)(hb:Rows.uptoBulk x.1≤1048576) :
  ∃ ls:List Org,cellsD x.1=[.sl (orgRows ls)]∧ls.all okO=true∧ls.length≤2000000:=by
 rcases DataW.trod_slice uOs h with ⟨_,rfl⟩ | ⟨a,len,cap,elems,rest,n,_,_,rfl,_,_,_,hlen,hel,_,_⟩
 ·exact ⟨[],by simp [cellsD,orgRows],by simp,by simp⟩
 ·have hea:=each_of hlen hel
  obtain ⟨l,h1,h2,h3⟩:=of_list (row:=Org.cells) (Q:=fun o n=>n≤1048576→okO o=true) (fun _ _ _ h k hm=>k (Nat.le_trans h hm)) (fun fuel cs x h=>by obtain ⟨o,q1,_,q3⟩:=of_orgQ h; exact ⟨o,q1,q3⟩) elems hea;have hb2:=bulks.slice_elems (elems.map (·.1)) (rest.map (·.1));have h4:∀ d∈elems.map (·.1),2≤Rows.uptoBulk d:=fun d hd=>by
   obtain ⟨y,hy,rfl⟩:=List.mem_map.1 hd;obtain ⟨fuel,cs,hc⟩:=hea y hy;obtain ⟨o,_,hs,_⟩:=of_orgQ hc;exact hs
  have h5:=two_all h4;refine ⟨l,by simp [cellsD,h1,orgRows],?_,?_⟩
  ·simp only [List.all_eq_true]
   intro o ho;exact h3 o ho (by simp only at hb2 hb ⊢; omega)
  ·simp at h5 hb2 hb ⊢; omega
structure LaidT (W:World) (m:GvP):Prop where
 n0:W.cell? ⟨0,0,none⟩=some (.int .i64 m.m)
 h1:∃ T fz,W.heap[5]?=some (.cells (Lib.pow10Tab.map fun z=>Value.int .u64 z).toArray T fz)
 h4:∃ T fz,W.heap[3]?=some (.cells #[.iface m.t4 m.p4] T fz)
 h5:∃ T fz,W.heap[4]?=some (.cells #[.iface m.t5 m.p5] T fz)
theorem iface_inv{P:Program}{w:World}{sp:Nat→Bool}{fuel:Nat}{t:TypeId}{ms:Array (String×TypeId)}{cs:List Value}{n:String}{d:DataW Unit}{p:List MemPlace}(ht:P.underlying t=some (.interface ms))
  (h:DataW.trod (fun _=>()) P w 0 sp false fuel t cs=some (.iface n d,p)):∃ u v,cs=[.iface u v]:=by
 cases fuel with
 | zero=>simp [DataW.trod]at h
 | succ fuel=>
  match cs with
  | []=>simp [DataW.trod,ht]at h
  | x::y::r=>simp [DataW.trod,ht]at h
  | [x]=>
   cases x with
   | iface u v=>exact ⟨u,v,rfl⟩
   | _=>simp [DataW.trod,ht]at h
theorem var_cells{P:Program}{W:World}{n:String}{g:Nat}{cs:Array Value}(hg:P.globalNamed n=some g)(hv:W.var? P n=some cs):∃ T fz,W.heap[g]?=some (.cells cs T fz):=by
 unfold World.var? at hv
 rw [hg]at hv
 simp only [Option.bind_some]at hv
 split at hv
 ·rename_i c T fz hh
  injection hv with hv; subst hv
  exact ⟨T,fz,hh⟩
 ·cases hv
theorem call_row{f:FuncId}{F:List AV→Option AV}{m:GvP}(hP:PureOK Tryz.prog (gv1 m) f F){W:World}(hm:LaidT W m){args:Array Value}{avs:List AV}(hr:RelL (Cx.pure (imOf W)) avs args.toList)(hF:F avs=some (.bool true)) :
  Calls Tryz.prog f args W fun e W'=>e=.returned (.bool true)∧Below W.heap.size W W':=by
 have hgl:GvHolds (gv1 m) (imOf W) W:=by
  refine ⟨?_,?_⟩
  ·intro g r hg
   simp only [gv1]at hg;split at hg
   ·rename_i e; subst e
    injection hg with hg; subst hg
    refine .fptr _ 0 0 0 (fun _=>.int .i64 m.m) (fun j c hc=>?_) (fun j c hc=>?_)
    ·have hj:j=0:=by cases j with
      | zero=>rfl
      | succ j=>simp at hc
     subst hj;exact imOf_some hm.n0 rfl
    ·have hj:j=0:=by cases j with
      | zero=>rfl
      | succ j=>simp at hc
     subst hj;simp at hc; subst hc;exact .int .i64 m.m
   ·cases hg
  ·intro g cs hg
   simp only [gv1]at hg;split at hg
   ·rename_i e; subst e; injection hg with hg; subst hg; exact hm.h1
   ·split at hg
    ·rename_i e; subst e; injection hg with hg; subst hg; exact hm.h4
    ·split at hg
     ·rename_i e; subst e; injection hg with hg; subst hg; exact hm.h5
     ·cases hg
 refine (hP (imOf W) W avs (.bool true) args (imOf_holds W) hgl hr hF).mono fun e W' hk=>?_
 obtain ⟨v,J,rfl,_,_,h4,h5⟩:=hk
 rw [bool_inv h4]
 exact ⟨rfl,h5⟩
end
theorem gn1:Tryz.prog.globalNamed "internal/strconv.uint64pow10" = some 5:=by kernel_rfl
theorem gn6:Tryz.prog.globalNamed "strconv.ErrSyntax" = some 3:=by kernel_rfl
theorem gn7:Tryz.prog.globalNamed "strconv.ErrRange" = some 4:=by kernel_rfl
theorem gt1:(Tryz.prog.globals[5]?).map (·.type)=some 763:=by kernel_rfl
theorem gt6:(Tryz.prog.globals[3]?).map (·.type)=some 424:=by kernel_rfl
theorem gt7:(Tryz.prog.globals[4]?).map (·.type)=some 424:=by kernel_rfl
theorem u183:Tryz.prog.underlying 763=some (.array 20 207):=by kernel_rfl
theorem u151:Tryz.prog.underlying 207=some (.int .u64):=by kernel_rfl
theorem c151:Tryz.prog.cellsOf 207=1:=by kernel_rfl
theorem c183:Tryz.prog.cellsOf 763=20:=by kernel_rfl
theorem u76:∃ ms,Tryz.prog.underlying 424=some (.interface ms):=⟨_,Tryz.underlying424⟩
abbrev laidT:List (String×DataW Unit):=Rows.componentRelatesUptoRow.laid
theorem laidT_eq(W:World):laidMetH Tryz.prog laidT W=laidMet Tryz.prog laidT W:=by kernel_rfl
theorem laid_of{W:World}(hS:W.ShapedOpen Tryz.prog)(h:laidMetH Tryz.prog laidT W):∃ m,LaidT W m:=by
 rw [laidT_eq]at h
 obtain ⟨n,hn⟩:=maxLen_holds hS
 obtain ⟨ps,hl,_⟩:=h
 have hl':DataW.LaidVars Tryz.prog W [("unicode/utf8.first",Rows.laid_unicode_utf8_first),("unicode/utf8.acceptRanges",Rows.laid_unicode_utf8_acceptRanges),("strconv.ErrSyntax",Rows.laid_strconv_ErrSyntax),("strconv.ErrRange",Rows.laid_strconv_ErrRange),("internal/strconv.uint64pow10",Rows.laid_internal_strconv_uint64pow10),("math/bits.deBruijn32tab",Rows.laid_math_bits_deBruijn32tab),("math/bits.deBruijn64tab",Rows.laid_math_bits_deBruijn64tab)] ps:=hl
 obtain ⟨_,_,_,_,_,_,_,_,_,_,hl1,_⟩:=hl'
 obtain ⟨_,_,_,_,_,_,_,_,_,_,hl2,_⟩:=hl1
 obtain ⟨g4,t4,cs4,fu4,p4,q4,c1,c2,c3,c4,hl3,_⟩:=hl2
 obtain ⟨g5,t5,cs5,fu5,p5,q5,b1,b2,b3,b4,hl4,_⟩:=hl3
 obtain ⟨g1,t1,cs1,fu1,p1,q1,a1,a2,a3,a4,_,_⟩:=hl4
 obtain rfl:5=g1:=Option.some.inj (gn1.symm.trans a1)
 obtain rfl:4=g5:=Option.some.inj (gn7.symm.trans b1)
 obtain rfl:3=g4:=Option.some.inj (gn6.symm.trans c1)
 obtain rfl:763=t1:=Option.some.inj (gt1.symm.trans a2)
 obtain rfl:424=t5:=Option.some.inj (gt7.symm.trans b2)
 obtain rfl:424=t4:=Option.some.inj (gt6.symm.trans c2)
 have e1:cs1.toList=Lib.pow10Tab.map fun z=>Value.int .u64 z:=Lib.cells_of_tab (zs:=Lib.pow10Tab) u183 u151 c151 c183 a4
 obtain ⟨ms,u20⟩:=u76
 obtain ⟨u5,v5,e5⟩:=iface_inv u20 b4
 obtain ⟨u4,v4,e4⟩:=iface_inv u20 c4
 have e1':cs1=(Lib.pow10Tab.map fun z=>Value.int .u64 z).toArray:=by rw [← e1]
 have e5':cs5=#[.iface u5 v5]:=by rw [← Array.toList_inj]; simpa using e5
 have e4':cs4=#[.iface u4 v4]:=by rw [← Array.toList_inj]; simpa using e4
 subst e1' e5' e4'
 exact ⟨⟨n,u4,v4,u5,v5⟩,hn,var_cells gn1 a3,var_cells gn6 c3,var_cells gn7 b3⟩
end Go.Proofs.YtpefhfiehfkocaaGreatDoor
