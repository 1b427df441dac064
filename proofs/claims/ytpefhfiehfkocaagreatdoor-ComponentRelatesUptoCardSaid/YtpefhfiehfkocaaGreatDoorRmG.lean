/- strings.Clone,strings.HasPrefix: calls of the same functions of stringslite. The digest: words of 64 bits,arrays of them,a rotation,a round. The digest's round. The digest's permutation. Taking in -/
import Derived.Test.YtpefhfiehfkocaaGreatDoorRmB
import Derived.Test.YtpefhfiehfkocaaGreatDoorRmD
import Derived.Test.YtpefhfiehfkocaaGreatDoorRmA
namespace Go.Proofs.YtpefhfiehfkocaaGreatDoor
open Go.RowKit Go.IntWalk
theorem CloneS_ok{G:Gam}(hC:G Fn.q36=some (.pure F_CloneS)):∀ args r,F_CloneS args=some r→wpM G Mc.q80 (pureQ Rs.q80 r) [] (frInit Ks.q80 args) []:=by
 intro args r hF
 have hF':=hF
 unfold F_CloneS at hF'
 split at hF'
 ·rename_i s
  split at hF'
  ·injection hF' with e; subst e
   have cl:∀ st h,opV G st h (.call Fn.q36) (some [.str s])=some (.str s,h):=fun st h=>op_call hC (us:=[.str s]) rfl hF (.inl rfl)
   rw [wpM_go];simp [Mc.q80,frInit,Ks.q80,cl,pureQ,Rs.q80]
  ·cases hF'
 ·cases hF'
theorem HasPrefix_ok{G:Gam}(hC:G Fn.q32=some (.pure F_HasPrefix)):∀ args r,F_HasPrefix args=some r→wpM G Mc.q57 (pureQ Rs.q57 r) [] (frInit Ks.q57 args) []:=by
 intro args r hF
 have hF':=hF
 unfold F_HasPrefix at hF'
 split at hF'
 ·rename_i s t
  injection hF' with e; subst e
  have cl:∀ st h,opV G st h (.call Fn.q32) (some [.str s,.str t])=some (.bool (t.isPrefixOf s),h):=fun st h=>op_call hC (us:=[.str s,.str t]) rfl hF (.inl rfl)
  rw [wpM_go];simp [Mc.q57,frInit,Ks.q57,cl,pureQ,Rs.q57]
 ·cases hF'
end Go.Proofs.YtpefhfiehfkocaaGreatDoor
namespace Go.Proofs.YtpefhfiehfkocaaGreatDoor
open Go.RowKit Go.IntWalk
def rotE(x k:Int):Int:=oo (sl x (an (IntKind.u64.wrap k) 63)) (sr x (IntKind.u64.wrap (64-an (IntKind.u64.wrap k) 63)))
def F_rot:List AV→Option AV:=F2 (eKind .u64) eInt (eKind .u64) fun x k=>some (rotE x k)
theorem rot_ok(G:Gam):∀ args r,F_rot args=some r→wpM G Mc.q44 (pureQ Rs.q44 r) [] (frInit Ks.q44 args) []:=F2_ok fun x k r h=>by
 injection h with h; subst h
 rw [wpM_go]
 have h1:0≤an (IntKind.u64.wrap k) 63:=wU_nonneg _
 have h2:0≤IntKind.u64.wrap (64-an (IntKind.u64.wrap k) 63):=wU_nonneg _
 simp [Mc.q44,frInit,Ks.q44,eKind,eInt,Rs.q44,bin_sl h1,bin_sr h2,rotE]
end Go.Proofs.YtpefhfiehfkocaaGreatDoor
namespace Go.Proofs.YtpefhfiehfkocaaGreatDoor
open Go.RowKit Go.IntWalk
theorem get_wd{cs:List Int}{i:Nat}(hi:i<cs.length):(wd cs)[i]?=some (.int .u64 (cs.getD i 0)):=by
 simp [List.getD,List.getElem?_eq_getElem hi]
theorem get_nm{cs:List Int}{i:Nat}(hi:i<cs.length):(nm cs)[i]?=some (.int .i64 (cs.getD i 0)):=by
 simp [List.getD,List.getElem?_eq_getElem hi]
theorem set_wd(cs:List Int)(i:Nat)(x:Int):(wd cs).set i (.int .u64 x)=wd (cs.set i x):=by simp [List.map_set]
theorem rem5(i:Nat):∃ x:Nat,x=i % 5∧x<5∧binAV .rem (.int .i64 i) (.int .i64 5)=some (.int .i64 x):=by
 refine ⟨i % 5,rfl,Nat.mod_lt _ (by decide),?_⟩
 have e:((i:Int).tmod 5)=((i % 5:Nat):Int):=by rw [Int.tmod_eq_emod_of_nonneg (by omega)]; omega
 simp only [binAV,intBin]
 simp [e]
theorem quo5{i:Nat}(hi:i<1000):∃ y:Nat,y=i / 5∧binAV .quo (.int .i64 i) (.int .i64 5)=some (.int .i64 y):=by
 refine ⟨i / 5,rfl,?_⟩
 have e:((i:Int).tdiv 5)=((i / 5:Nat):Int):=by rw [Int.tdiv_eq_ediv_of_nonneg (by omega)]; omega
 have e2:IntKind.i64.wrap ((i / 5:Nat):Int)=((i / 5:Nat):Int):=i64_small (by omega) (by omega)
 simp only [binAV,intBin]
 simp only [reduceCtorEq,or_self,if_false,if_true,e,e2]
 simp
def colsE(cs:List Int)(i:Nat):List Int→List Int
 | []=>cs
 | w::r=>colsE (cs.set (i % 5) (xo (cs.getD (i % 5) 0) w)) (i+1) r
theorem colsE_len:∀ (r:List Int) (cs:List Int) (i:Nat),(colsE cs i r).length=cs.length
 | [],_,_=>rfl
 | w::r,cs,i=>by rw [colsE,colsE_len r]; simp
abbrev h4(st off out cs:List Int):Heap:=[.cells (wd st),.cells (nm off),.cells (wd out),.cells (wd cs)]
abbrev fr_r(st off:List Int)(c:Int)(e8 e9 e10 e11 e12 e13 e14 e15 e16 e17 e18 e30 e31 e69:AV):List (Nat×AV):=
 [(0,.agg (wd st)),(1,.agg (nm off)),(2,.int .u64 c),(3,.ptr 0 0),(4,.ptr 1 0),(6,.ptr 2 0),(7,.ptr 3 0),(8,e8),(9,e9),(10,e10),(11,e11),(12,e12),(13,e13),(14,e14),(15,e15),(16,e16),(17,e17),(18,e18),(30,e30),(31,e31),(69,e69)]
theorem round_L0(G:Gam)(st off:List Int)(hs:st.length=25)(c:Int)(out:List Int){ks:List MK}{Q:MPost}:∀ (rest:List Int) (i:Nat) (cs:List Int),st.drop i=rest→i≤25→cs.length=5→
  (∀ env,exM G .normal ks Q env (fr_r st off c .junk .junk .junk .junk .junk .junk .junk .junk .junk (.agg (wd st)) (.int .i64 25) .junk .junk .junk) (h4 st off out (colsE cs i rest)))→
  headM G [8,9] Mc.q89_L0 4 (.blk 0::ks) Q (fr_r st off c .junk .junk .junk .junk .junk .junk .junk .junk .junk (.agg (wd st)) (.int .i64 i) .junk .junk .junk) (h4 st off out cs)
 | [],i,cs,hd,hi,hc,hk=>by
  have hi2:=drop_nil hd;have e:i=25:=by omega
  subst e;have e1:ltB 25 25=false:=rfl;refine head_go (Mc.q89_L0.eq_1) ?_
  rw [trunc_len (n:=4) rfl];have:=hk;simp only [colsE]at this;simp;simpa using this _
 | w::rest,i,cs,hd,hi,hc,hk=>by
  obtain ⟨hi2,hx,hxd⟩:=drop_cons hd;have hi':ltB i 25=true:=ltB_iff.2 (by omega);have hw:=wrap1 (i:=i) (by unfold big; omega);obtain ⟨x,hxe,hx5,hr⟩:=rem5 i;simp only [colsE,← hxe]at hk;have ia:=fun st0 h=>op_iarr (G:=G) (s:=st0) (h:=h) (len:=25) (i:=i) (k:=.i64) (cs:=wd st) (v:=.int .u64 w) (by omega) (by simp [hx])
  have aa:=fun st0 h=>op_aadr (G:=G) (s:=st0) (h:=h) (len:=5) (size:=1) (l:=3) (off:=0) (i:=x) (k:=.i64) hx5 (by decide)
  have ld:=cut_at (get_wd (cs:=cs) (i:=x) (by omega));have sc:=st_cell (h:=h4 st off out cs) (l:=3) (off:=x) (vs:=wd cs) (k:=.u64) (n:=xo (cs.getD x 0) w) rfl (by simp; omega);rw [set_wd]at sc;have ih:=round_L0 G st off hs c out rest (i+1) (cs.set x (xo (cs.getD x 0) w)) hxd (by omega) (by simpa using hc) hk;generalize cs.getD x 0=v at ld sc ih;simp only [Nat.zero_add,Nat.mul_one,List.set]at aa sc;refine head_go (Mc.q89_L0.eq_1) ?_
  rw [trunc_len (n:=4) rfl];simp [hi',ia,hr,aa,ld,sc,hw,-stAV_ptr];refine head_of ?_
  rw [trunc_len (n:=4) rfl];simpa [fr_r,h4,wd] using ih
def turnsE(off cs:List Int)(t:List Int)(i:Nat):List Int→List Int
 | []=>t
 | w::r=>turnsE off cs (t.set (i / 5+5*((2*(i % 5)+3*(i / 5)) % 5)) (rotE (xo w (xo (cs.getD ((i % 5+4) % 5) 0) (rotE (cs.getD ((i % 5+1) % 5) 0) 1))) (off.getD i 0))) (i+1) r
theorem turnsE_len(off cs:List Int):∀ (r t:List Int) (i:Nat),(turnsE off cs t i r).length=t.length
 | [],_,_=>rfl
 | w::r,t,i=>by rw [turnsE,turnsE_len off cs r]; simp
abbrev h5(st off out cs t:List Int):Heap:=[.cells (wd st),.cells (nm off),.cells (wd out),.cells (wd cs),.cells (wd t)]
theorem round_L1(G:Gam)(hR:G Fn.q44=some (.pure F_rot))(st off:List Int)(hs:st.length=25)(ho:off.length=25)(c:Int)(out cs:List Int)(hc:cs.length=5){ks:List MK}{Q:MPost}:∀ (rest:List Int) (i:Nat) (t:List Int),st.drop i=rest→i≤25→t.length=25→
  (∀ env,exM G .normal ks Q env (fr_r st off c .junk .junk (.ptr 4 0) .junk .junk .junk .junk .junk .junk (.agg (wd st)) (.int .i64 25) (.agg (wd st)) (.int .i64 25) .junk) (h5 st off out cs (turnsE off cs t i rest)))→
  headM G [11,12,13,14] Mc.q89_L1 5 (.blk 2::ks) Q (fr_r st off c .junk .junk (.ptr 4 0) .junk .junk .junk .junk .junk .junk (.agg (wd st)) (.int .i64 25) (.agg (wd st)) (.int .i64 i) .junk) (h5 st off out cs t)
 | [],i,t,hd,hi,ht,hk=>by
  have hi2:=drop_nil hd;have e:i=25:=by omega
  subst e;refine head_go (Mc.q89_L1.eq_1) ?_
  rw [trunc_len (n:=5) rfl];have:=hk;simp only [turnsE]at this;simp;simpa using this _
 | w::rest,i,t,hd,hi,ht,hk=>by
  obtain ⟨hi2,hx,hxd⟩:=drop_cons hd;have hi':ltB i 25=true:=ltB_iff.2 (by omega);have hw:=wrap1 (i:=i) (by unfold big; omega);obtain ⟨x,hxe,hx5,hr⟩:=rem5 i;obtain ⟨y,hye,hq⟩:=quo5 (i:=i) (by omega);have hy5:y<5:=by omega
  obtain ⟨x4,hx4e,hx45,hr4⟩:=rem5 (x+4);obtain ⟨x1,hx1e,hx15,hr1⟩:=rem5 (x+1);obtain ⟨z,hze,hz5,hrz⟩:=rem5 (2*x+3*y);simp only [turnsE,← hxe,← hye,← hx4e,← hx1e,← hze]at hk;have w1:IntKind.i64.wrap ((x:Int)+4)=((x+4:Nat):Int):=i64_small (by omega) (by omega);have w2:IntKind.i64.wrap ((x:Int)+1)=((x+1:Nat):Int):=i64_small (by omega) (by omega);have w3:IntKind.i64.wrap (2*(x:Int))=2*x:=i64_small (by omega) (by omega);have w4:IntKind.i64.wrap (3*(y:Int))=3*y:=i64_small (by omega) (by omega);have w5:IntKind.i64.wrap (2*(x:Int)+3*y)=((2*x+3*y:Nat):Int):=by rw [i64_small (by omega) (by omega)]; omega
  have w6:IntKind.i64.wrap (5*(z:Int))=5*z:=i64_small (by omega) (by omega);have w7:IntKind.i64.wrap ((y:Int)+5*z)=((y+5*z:Nat):Int):=by rw [i64_small (by omega) (by omega)]; omega
  have ia:=fun st0 h=>op_iarr (G:=G) (s:=st0) (h:=h) (len:=25) (i:=i) (k:=.i64) (cs:=wd st) (v:=.int .u64 w) (by omega) (by simp [hx])
  have a1:=fun st0 h=>op_aadr (G:=G) (s:=st0) (h:=h) (len:=5) (size:=1) (l:=3) (off:=0) (i:=x4) (k:=.i64) hx45 (by decide)
  have a2:=fun st0 h=>op_aadr (G:=G) (s:=st0) (h:=h) (len:=5) (size:=1) (l:=3) (off:=0) (i:=x1) (k:=.i64) hx15 (by decide)
  have a3:=fun st0 h=>op_aadr (G:=G) (s:=st0) (h:=h) (len:=25) (size:=1) (l:=1) (off:=0) (i:=i) (k:=.i64) (by omega) (by decide)
  have a4:=fun st0 h=>op_aadr (G:=G) (s:=st0) (h:=h) (len:=25) (size:=1) (l:=4) (off:=0) (i:=y+5*z) (k:=.i64) (by omega) (by decide)
  have c1:=cut_at (get_wd (cs:=cs) (i:=x4) (by omega));have c2:=cut_at (get_wd (cs:=cs) (i:=x1) (by omega));have c3:=cut_at (get_nm (cs:=off) (i:=i) (by omega));have cR:∀ a k st0 h,opV G st0 h (.call Fn.q44) (some [.int .u64 a,.int .i64 k])=some (.int .u64 (rotE a k),h):=fun a k st0 h=>op_call hR rfl (F2_use (A:=eKind .u64) (B:=eInt) (R:=eKind .u64) (x:=a) (y:=k) rfl) (.inl rfl)
  have sc:=fun v=>st_cell (h:=h5 st off out cs t) (l:=4) (off:=y+5*z) (vs:=wd t) (k:=.u64) (n:=v) rfl (by simp; omega)
  simp only [set_wd]at sc;have ih:=round_L1 G hR st off hs ho c out cs hc rest (i+1) _ hxd (by omega) (by rw [List.length_set]; exact ht) hk;generalize cs.getD x4 0=v4 at c1 ih;generalize cs.getD x1 0=v1 at c2 ih;generalize off.getD i 0=vo at c3 ih;simp only [Nat.zero_add,Nat.mul_one,List.set]at a1 a2 a3 a4 sc;generalize y+5*z=d at w7 a4 sc ih;generalize 2*x+3*y=d2 at w5 hrz;generalize x+4=d3 at w1 hr4;generalize x+1=d4 at w2 hr1;refine head_go (Mc.q89_L1.eq_1) ?_
  rw [trunc_len (n:=5) rfl];simp [hi',ia,hr,hq,w1,w2,w3,w4,w5,w6,w7,hr4,hr1,hrz,a1,a2,a3,a4,c1,c2,c3,cR,sc,hw,-stAV_ptr];refine head_of ?_
  rw [trunc_len (n:=5) rfl];simpa [fr_r,h5,wd] using ih
def mixE(t:List Int):Nat→Nat→List Int→List Int
 | 0,_,cur=>cur
 | n+1,i,cur=>mixE t n (i+1) (cur.set i (xo (t.getD i 0) (an (nt (t.getD (i-i % 5+(i+1) % 5) 0)) (t.getD (i-i % 5+(i+2) % 5) 0))))
theorem mixE_len(t:List Int):∀ (n i:Nat) (cur:List Int),(mixE t n i cur).length=cur.length
 | 0,_,_=>rfl
 | n+1,i,cur=>by rw [mixE,mixE_len t n]; simp
theorem round_L2(G:Gam)(st off:List Int)(c:Int)(out cs t:List Int)(ht:t.length=25){ks:List MK}{Q:MPost}:∀ (n i:Nat) (cur:List Int),n+i=25→cur.length=25→
  (∀ env,exM G .normal ks Q env (fr_r st off c .junk .junk (.ptr 4 0) .junk .junk .junk .junk .junk .junk (.agg (wd st)) (.int .i64 25) (.agg (wd st)) (.int .i64 25) (.int .i64 25)) (h5 (mixE t n i cur) off out cs t))→
  headM G [15,16] Mc.q89_L2 5 (.blk 4::ks) Q (fr_r st off c .junk .junk (.ptr 4 0) .junk .junk .junk .junk .junk .junk (.agg (wd st)) (.int .i64 25) (.agg (wd st)) (.int .i64 25) (.int .i64 i)) (h5 cur off out cs t)
 | 0,i,cur,hn,hc,hk=>by
  have e:i=25:=by omega
  subst e;refine head_go (Mc.q89_L2.eq_1) ?_
  rw [trunc_len (n:=5) rfl];have:=hk;simp only [mixE]at this;simp;simpa using this _
 | n+1,i,cur,hn,hc,hk=>by
  have hi':ltB i 25=true:=ltB_iff.2 (by omega);have hw:=wrap1 (i:=i) (by unfold big; omega);obtain ⟨x,hxe,hx5,hr⟩:=rem5 i;obtain ⟨x1,hx1e,hx15,hr1⟩:=rem5 (i+1);obtain ⟨x2,hx2e,hx25,hr2⟩:=rem5 (i+2);simp only [mixE,← hxe,← hx1e,← hx2e]at hk;have hxi:x≤i:=by omega
  obtain ⟨q,hq⟩:∃ q:Nat,q=i-x:=⟨_,rfl⟩
  rw [← hq]at hk;have hq20:q≤20:=by omega
  have w0:IntKind.i64.wrap ((i:Int)-x)=(q:Nat):=by rw [i64_small (by omega) (by omega)]; omega
  have w1:IntKind.i64.wrap ((i:Int)+1)=((i+1:Nat):Int):=i64_small (by omega) (by omega);have w2:IntKind.i64.wrap ((i:Int)+2)=((i+2:Nat):Int):=i64_small (by omega) (by omega);have w3:IntKind.i64.wrap ((q:Int)+x1)=((q+x1:Nat):Int):=i64_small (by omega) (by omega);have w4:IntKind.i64.wrap ((q:Int)+x2)=((q+x2:Nat):Int):=i64_small (by omega) (by omega);have a0:=fun st0 h=>op_aadr (G:=G) (s:=st0) (h:=h) (len:=25) (size:=1) (l:=4) (off:=0) (i:=i) (k:=.i64) (by omega) (by decide)
  have a1:=fun st0 h=>op_aadr (G:=G) (s:=st0) (h:=h) (len:=25) (size:=1) (l:=4) (off:=0) (i:=q+x1) (k:=.i64) (by omega) (by decide)
  have a2:=fun st0 h=>op_aadr (G:=G) (s:=st0) (h:=h) (len:=25) (size:=1) (l:=4) (off:=0) (i:=q+x2) (k:=.i64) (by omega) (by decide)
  have a3:=fun st0 h=>op_aadr (G:=G) (s:=st0) (h:=h) (len:=25) (size:=1) (l:=0) (off:=0) (i:=i) (k:=.i64) (by omega) (by decide)
  have c0:=cut_at (get_wd (cs:=t) (i:=i) (by omega));have c1:=cut_at (get_wd (cs:=t) (i:=q+x1) (by omega));have c2:=cut_at (get_wd (cs:=t) (i:=q+x2) (by omega));have sc:=fun v=>st_cell (h:=h5 cur off out cs t) (l:=0) (off:=i) (vs:=wd cur) (k:=.u64) (n:=v) rfl (by simp; omega)
  simp only [set_wd]at sc;have ih:=round_L2 G st off c out cs t ht n (i+1) _ (by omega) (by rw [List.length_set]; exact hc) hk;generalize t.getD i 0=v0 at c0 ih;generalize t.getD (q+x1) 0=v1 at c1 ih;generalize t.getD (q+x2) 0=v2 at c2 ih;simp only [Nat.zero_add,Nat.mul_one,List.set]at a0 a1 a2 a3 sc;generalize q+x1=d1 at w3 a1 c1;generalize q+x2=d2 at w4 a2 c2;have hs1:∀ e:Nat,e=i+1→True:=fun _ _=>trivial
  obtain ⟨e1,he1⟩:∃ e:Nat,e=i+1:=⟨_,rfl⟩
  obtain ⟨e2,he2⟩:∃ e:Nat,e=i+2:=⟨_,rfl⟩
  rw [← he1]at w1 hr1 hw ih;rw [← he2]at w2 hr2;refine head_go (Mc.q89_L2.eq_1) ?_
  rw [trunc_len (n:=5) rfl];simp [hi',hr,w0,w1,w2,w3,w4,hr1,hr2,a0,a1,a2,a3,c0,c1,c2,sc,un_nt,-unAV,-stAV_ptr];refine head_of ?_
  rw [trunc_len (n:=5) rfl];simpa [fr_r,h5,wd] using ih
def roundE(st off:List Int)(c:Int):List Int:=
 let t:=turnsE off (colsE (List.replicate 5 0) 0 st) (List.replicate 25 0) 0 st
 let m:=mixE t 25 0 st
 m.set 0 (xo (m.getD 0 0) c)
theorem roundE_len{st off:List Int}{c:Int}:(roundE st off c).length=st.length:=by simp [roundE,mixE_len]
def F_round:List AV→Option AV:=F3 (eAgg rW) (eAgg rN) (eKind .u64) (eAgg rW) fun st off c=>if st.length=25∧off.length=25 then some (roundE st off c)else none
theorem round_ok(G:Gam)(hR:G Fn.q44=some (.pure F_rot)):∀ args r,F_round args=some r→wpM G Mc.q89 (pureQ Rs.q89 r) [] (frInit Ks.q89 args) []:=F3_ok fun st off c r h=>by
 split at h
 ·rename_i hl
  obtain ⟨hs,ho⟩:=hl;injection h with h; subst h
  rw [wpM_go];simp only [eAgg_wd,eAgg_nm];obtain ⟨z,hz⟩:∃ z,z=List.replicate 25 (0:Int):=⟨_,rfl⟩
  obtain ⟨y,hy⟩:∃ y,y=List.replicate 5 (0:Int):=⟨_,rfl⟩
  have z25:[AV.int .u64 0,.int .u64 0,.int .u64 0,.int .u64 0,.int .u64 0,.int .u64 0,.int .u64 0,.int .u64 0,.int .u64 0,.int .u64 0,.int .u64 0,.int .u64 0,.int .u64 0,.int .u64 0,.int .u64 0,.int .u64 0,.int .u64 0,.int .u64 0,.int .u64 0,.int .u64 0,.int .u64 0,.int .u64 0,.int .u64 0,.int .u64 0,.int .u64 0]=wd z:=by rw [hz]; rfl
  have z5:[AV.int .u64 0,.int .u64 0,.int .u64 0,.int .u64 0,.int .u64 0]=wd y:=by rw [hy]; rfl
  have hzl:z.length=25:=by rw [hz]; simp
  have hyl:y.length=5:=by rw [hy]; simp
  have l0:=fun ks Q hk=>round_L0 G st off hs c z (ks:=ks) (Q:=Q) st 0 y rfl (by omega) hyl hk
  have l1:=fun ks Q hk=>round_L1 G hR st off hs ho c z (colsE y 0 st) (by rw [colsE_len]; exact hyl) (ks:=ks) (Q:=Q) st 0 z rfl (by omega) hzl hk
  have l2:=fun ks Q hk=>round_L2 G st off c z (colsE y 0 st) (turnsE off (colsE y 0 st) z 0 st) (by rw [turnsE_len]; exact hzl) (ks:=ks) (Q:=Q) 25 0 st rfl hs hk
  have hm:(mixE (turnsE off (colsE y 0 st) z 0 st) 25 0 st).length=25:=by rw [mixE_len]; exact hs
  have hr:roundE st off c=(mixE (turnsE off (colsE y 0 st) z 0 st) 25 0 st).set 0 (xo ((mixE (turnsE off (colsE y 0 st) z 0 st) 25 0 st).getD 0 0) c):=by simp only [roundE,← hz,← hy]
  rw [hr];clear hr;generalize colsE y 0 st=cs at l0 l1 l2 hm ⊢;generalize turnsE off cs z 0 st=t at l1 l2 hm ⊢;generalize mixE t 25 0 st=m at l2 hm ⊢;have c0:=cut_at (get_wd (cs:=m) (i:=0) (by omega));have sc:=fun v=>st_cell (h:=h5 m off z cs t) (l:=0) (off:=0) (vs:=wd m) (k:=.u64) (n:=v) rfl (by simp; omega)
  simp only [set_wd]at sc;have a0:∀ st0 h,opV G st0 h (.aadr 25 1) (some [.ptr 0 0,.int .i64 0])=some (.ptr 0 0,h):=fun st0 h=>by simpa using op_aadr (G:=G) (s:=st0) (h:=h) (len:=25) (size:=1) (l:=0) (off:=0) (i:=0) (k:=.i64) (by omega) (by decide)
  generalize m.getD 0 0=v0 at c0 sc ⊢;obtain ⟨m2,hm2⟩:∃ m2,m2=m.set 0 (xo v0 c):=⟨_,rfl⟩
  have hm2l:m2.length=25:=by rw [hm2]; simpa using hm
  have sc0:=sc (xo v0 c);rw [← hm2]at sc0 ⊢;have sa:=st_all (h:=h5 m2 off z cs t) (l:=2) (vs:=wd z) (us:=wd m2) rfl (by simpa using hzl) (by simpa using hm2l) (by omega) (all_one (fun _=>rfl) m2);have b1:=fun st0 h=>op_boxed (G:=G) (s:=st0) (h:=h) (v:=.agg (wd st)) (by intro e; have:=congrArg List.length e; simp [AV.cells,hs]at this)
  have b2:=fun st0 h=>op_boxed (G:=G) (s:=st0) (h:=h) (v:=.agg (nm off)) (by intro e; have:=congrArg List.length e; simp [AV.cells,ho]at this)
  have k1:=cut_whole (vs:=wd st) (n:=25) (by simpa using hs);have k2:=cut_whole (vs:=wd m2) (n:=25) (by simpa using hm2l);have k3:(wd st).length=25:=by simpa using hs
  have k4:(wd m2).length=25:=by simpa using hm2l
  have mk1:mkVal true 25 (wd st)=some (.agg (wd st)):=by simp [mkVal,hs]
  have mk2:mkVal true 25 (wd m2)=some (.agg (wd m2)):=by simp [mkVal,hm2l]
  have cc1:(AV.agg (wd st)).cells=wd st:=rfl;have cc2:(AV.agg (nm off)).cells=nm off:=rfl;simp only [cc1,cc2]at b1 b2;simp only [List.set]at sc0 sa;simp only [Mc.q89,z25];simp only [z5];simp [fr_r,h4]at l0;simp [fr_r,h5]at l1 l2;simp only [wd,nm]at *;simp [frInit,Ks.q89,eKind,b1,b2,k1,mk1];refine l0 _ _ (fun env=>?_)
  simp [k1,mk1];refine l1 _ _ (fun env=>?_)
  simp;refine l2 _ _ (fun env=>?_)
  simp [a0,c0,sc0,sa,k2,mk2,Rs.q89,-stAV_ptr]
 ·cases h
end Go.Proofs.YtpefhfiehfkocaaGreatDoor
namespace Go.Proofs.YtpefhfiehfkocaaGreatDoor
open Go.RowKit Go.IntWalk
def offsL:List Int:=[0,1,62,28,27,36,44,6,55,20,3,10,43,25,39,41,45,15,21,8,18,2,61,56,14]
def constL:List Int:=[1,32898,9223372036854808714,9223372039002292224,32907,2147483649,9223372039002292353,9223372036854808585,138,136,2147516425,2147483658,2147516555,9223372036854775947,9223372036854808713,9223372036854808579,9223372036854808578,9223372036854775936,32778,9223372039002259466,9223372039002292353,9223372036854808704,2147483649,9223372039002292232]
theorem offsL_len:offsL.length=25:=rfl
theorem constL_len:constL.length=24:=rfl
def F_offsets:List AV→Option AV:=F0 (.agg (nm offsL))
theorem offsets_ok(G:Gam):∀ args r,F_offsets args=some r→wpM G Mc.q76 (pureQ Rs.q76 r) [] (frInit Ks.q76 args) []:=F0_ok (by
 rw [wpM_go]
 simp [Mc.q76,frInit,Ks.q76,Rs.q76,bldAV,AV.cells,setAt,oneC,offsL,cut,mkVal])
def F_constants:List AV→Option AV:=F0 (.agg (wd constL))
theorem constants_ok(G:Gam):∀ args r,F_constants args=some r→wpM G Mc.q64 (pureQ Rs.q64 r) [] (frInit Ks.q64 args) []:=F0_ok (by
 rw [wpM_go]
 simp [Mc.q64,frInit,Ks.q64,Rs.q64,bldAV,AV.cells,setAt,oneC,constL,cut,mkVal])
def permE(f:List Int→Int→List Int)(st:List Int):List Int→List Int
 | []=>st
 | c::r=>permE f (f st c) r
theorem permE_len{f:List Int→Int→List Int}(hf:∀ st c,(f st c).length=st.length):∀ (r st:List Int),(permE f st r).length=st.length
 | [],_=>rfl
 | c::r,st=>by rw [permE,permE_len hf r,hf]
abbrev pm_fr(st0 _off con:List Int)(e5 e8:AV):List (Nat×AV):=[(0,.agg (wd st0)),(1,.ptr 0 0),(2,.ptr 1 0),(3,.ptr 2 0),(5,e5),(7,.agg (wd con)),(8,e8)]
abbrev pm_h(st z off:List Int):Heap:=[.cells (wd st),.cells (wd z),.cells (nm off)]
theorem perm_L0(G:Gam)(off:List Int)(f:List Int→Int→List Int)(hf:∀ st c,(f st c).length=st.length)(hR:∀ st c,st.length=25→∀ st0 h,opV G st0 h (.call Fn.q89) (some [.agg (wd st),.agg (nm off),.int .u64 c])=some (.agg (wd (f st c)),h))(st0 con z:List Int)(ho:off.length=25)(hc:con.length=24){ks:List MK}{Q:MPost}:∀ (rest:List Int) (i:Nat) (st:List Int),con.drop i=rest→i≤24→st.length=25→
  (∀ env,exM G .normal ks Q env (pm_fr st0 off con .junk (.int .i64 24)) (pm_h (permE f st rest) z off))→
  headM G [5] Mc.q75_L0 3 (.blk 0::ks) Q (pm_fr st0 off con .junk (.int .i64 i)) (pm_h st z off)
 | [],i,st,hd,hi,hs,hk=>by
  have hi2:=drop_nil hd;have e:i=24:=by omega
  subst e;refine head_go (Mc.q75_L0.eq_1) ?_
  rw [trunc_len (n:=3) rfl];have:=hk;simp only [permE]at this;simp;simpa using this _
 | c::rest,i,st,hd,hi,hs,hk=>by
  obtain ⟨hi2,hx,hxd⟩:=drop_cons hd;have hi':ltB i 24=true:=ltB_iff.2 (by omega);have hw:=wrap1 (i:=i) (by unfold big; omega);have ia:=fun st0 h=>op_iarr (G:=G) (s:=st0) (h:=h) (len:=24) (i:=i) (k:=.i64) (cs:=wd con) (v:=.int .u64 c) (by omega) (by simp [hx])
  have cR:=hR st c hs;have hrl:(f st c).length=25:=by rw [hf]; exact hs
  simp only [permE]at hk;have ih:=perm_L0 G off f hf hR st0 con z ho hc rest (i+1) (f st c) hxd (by omega) hrl hk;have k1:=cut_whole (vs:=wd st) (n:=25) (by simpa using hs);have mk1:mkVal true 25 (wd st)=some (.agg (wd st)):=by simp [mkVal,hs]
  have k2:=cut_whole (vs:=nm off) (n:=25) (by simpa using ho);have mk2:mkVal true 25 (nm off)=some (.agg (nm off)):=by simp [mkVal,ho]
  generalize f st c=r at cR hrl ih;have sa:=st_all (h:=pm_h st z off) (l:=0) (vs:=wd st) (us:=wd r) rfl (by simpa using hs) (by simpa using hrl) (by omega) (all_one (fun _=>rfl) r);simp only [List.set]at sa;refine head_go (Mc.q75_L0.eq_1) ?_
  rw [trunc_len (n:=3) rfl];simp [hi',ia,k1,k2,mk1,mk2,cR,sa,hw,-stAV_ptr];refine head_of ?_
  rw [trunc_len (n:=3) rfl];simpa [pm_fr] using ih
theorem round_call{G:Gam}(hR:G Fn.q89=some (.pure F_round)){st off:List Int}{c:Int}(hs:st.length=25)(ho:off.length=25)(st0:Bool)(h:Heap):opV G st0 h (.call Fn.q89) (some [.agg (wd st),.agg (nm off),.int .u64 c])=some (.agg (wd (roundE st off c)),h):=by
 have hu:=F3_use (A:=eAgg rW) (B:=eAgg rN) (C:=eKind .u64) (R:=eAgg rW) (f:=fun st off c=>if st.length=25∧off.length=25 then some (roundE st off c)else none) (x:=st) (y:=off) (z:=c) (r:=roundE st off c) (if_pos ⟨hs,ho⟩)
 generalize roundE st off c=r at hu ⊢
 exact op_call hR (us:=[.agg (wd st),.agg (nm off),.int .u64 c]) (by simp) hu (.inr (by simp [owns,ownsL]))
def F_Permute:List AV→Option AV:=F1 (eAgg rW) (eAgg rW) fun st=>if st.length=25 then some (permE (fun st c=>roundE st offsL c) st constL)else none
theorem Permute_ok(G:Gam)(hO:G Fn.q76=some (.pure F_offsets))(hC:G Fn.q64=some (.pure F_constants))(hR:G Fn.q89=some (.pure F_round)):∀ args r,F_Permute args=some r→wpM G Mc.q75 (pureQ Rs.q75 r) [] (frInit Ks.q75 args) []:=F1_ok fun st r h=>by
 split at h
 ·rename_i hs
  injection h with h; subst h
  rw [wpM_go];simp only [eAgg_wd];have cO:∀ st0 h,opV G st0 h (.call Fn.q76) (some [])=some (.agg (nm offsL),h):=fun st0 h=>op_call hO rfl rfl (.inr rfl)
  have cC:∀ st0 h,opV G st0 h (.call Fn.q64) (some [])=some (.agg (wd constL),h):=fun st0 h=>op_call hC rfl rfl (.inr rfl)
  have ho:=offsL_len;have hc:=constL_len;obtain ⟨z,hz⟩:∃ z,z=List.replicate 25 (0:Int):=⟨_,rfl⟩
  have z25:[AV.int .u64 0,.int .u64 0,.int .u64 0,.int .u64 0,.int .u64 0,.int .u64 0,.int .u64 0,.int .u64 0,.int .u64 0,.int .u64 0,.int .u64 0,.int .u64 0,.int .u64 0,.int .u64 0,.int .u64 0,.int .u64 0,.int .u64 0,.int .u64 0,.int .u64 0,.int .u64 0,.int .u64 0,.int .u64 0,.int .u64 0,.int .u64 0,.int .u64 0]=wd z:=by rw [hz]; rfl
  have y25:[AV.int .i64 0,.int .i64 0,.int .i64 0,.int .i64 0,.int .i64 0,.int .i64 0,.int .i64 0,.int .i64 0,.int .i64 0,.int .i64 0,.int .i64 0,.int .i64 0,.int .i64 0,.int .i64 0,.int .i64 0,.int .i64 0,.int .i64 0,.int .i64 0,.int .i64 0,.int .i64 0,.int .i64 0,.int .i64 0,.int .i64 0,.int .i64 0,.int .i64 0]=nm z:=by rw [hz]; rfl
  have hzl:z.length=25:=by rw [hz]; simp
  have hcall:∀ st c,st.length=25→∀ st0 h,opV G st0 h (.call Fn.q89) (some [.agg (wd st),.agg (nm offsL),.int .u64 c])=some (.agg (wd (roundE st offsL c)),h):=fun st c hs st0 h=>round_call hR hs ho st0 h
  have hflen:∀ st c,(roundE st offsL c).length=st.length:=fun st c=>roundE_len
  generalize hff:(fun (st:List Int) (c:Int)=>roundE st offsL c)=f;have hcall':∀ st c,st.length=25→∀ st0 h,opV G st0 h (.call Fn.q89) (some [.agg (wd st),.agg (nm offsL),.int .u64 c])=some (.agg (wd (f st c)),h):=by rw [← hff]; exact hcall
  have hflen':∀ st c,(f st c).length=st.length:=by rw [← hff]; exact hflen
  clear hcall hflen hff;generalize offsL=off at cO ho hcall' ⊢;generalize constL=con at cC hc ⊢;have l0:=fun ks Q hk=>perm_L0 G off f hflen' hcall' st con z ho hc (ks:=ks) (Q:=Q) con 0 st rfl (by omega) hs hk
  have hm:(permE f st con).length=25:=by rw [permE_len hflen']; exact hs
  generalize permE f st con=m at l0 hm ⊢;have b1:=fun st0 h=>op_boxed (G:=G) (s:=st0) (h:=h) (v:=.agg (wd st)) (by intro e; have:=congrArg List.length e; simp [AV.cells,hs]at this)
  have cc1:(AV.agg (wd st)).cells=wd st:=rfl;simp only [cc1]at b1;have s1:=st_all (h:=[.cells (wd st),.cells (wd z),.cells (nm z)]) (l:=2) (vs:=nm z) (us:=nm off) rfl (by simpa using hzl) (by simpa using ho) (by omega) (all_one (fun _=>rfl) off);have s2:=st_all (h:=pm_h m z off) (l:=1) (vs:=wd z) (us:=wd m) rfl (by simpa using hzl) (by simpa using hm) (by omega) (all_one (fun _=>rfl) m);have k1:=cut_whole (vs:=wd m) (n:=25) (by simpa using hm);have mk1:mkVal true 25 (wd m)=some (.agg (wd m)):=by simp [mkVal,hm]
  simp only [List.set]at s1 s2;simp only [Mc.q75,z25,y25];simp [pm_fr]at l0;simp [frInit,Ks.q75,b1,cO,cC,s1,-stAV_ptr];refine l0 _ _ (fun env=>?_)
  simp [k1,mk1,s2,Rs.q75,-stAV_ptr]
 ·cases h
end Go.Proofs.YtpefhfiehfkocaaGreatDoor
namespace Go.Proofs.YtpefhfiehfkocaaGreatDoor
open Go.RowKit Go.IntWalk
section
variable {G:Gam} {s:Bool} {h:Heap}
end
theorem rem8(i:Nat):∃ x:Nat,x=i % 8∧x<8∧binAV .rem (.int .i64 i) (.int .i64 8)=some (.int .i64 x):=by
 refine ⟨i % 8,rfl,Nat.mod_lt _ (by decide),?_⟩
 have e:((i:Int).tmod 8)=((i % 8:Nat):Int):=by rw [Int.tmod_eq_emod_of_nonneg (by omega)]; omega
 simp only [binAV,intBin]
 simp [e]
theorem quo8{i:Nat}(hi:i<1000):∃ y:Nat,y=i / 8∧binAV .quo (.int .i64 i) (.int .i64 8)=some (.int .i64 y):=by
 refine ⟨i / 8,rfl,?_⟩
 have e:((i:Int).tdiv 8)=((i / 8:Nat):Int):=by rw [Int.tdiv_eq_ediv_of_nonneg (by omega)]; omega
 have e2:IntKind.i64.wrap ((i / 8:Nat):Int)=((i / 8:Nat):Int):=i64_small (by omega) (by omega)
 simp only [binAV,intBin]
 simp only [reduceCtorEq,or_self,if_false,if_true,e,e2]
 simp
theorem at_rows{h:Heap}{x:AV}{rows:List (List AV)}{i:Nat}{v:AV}{k:IntKind}(hr:rowsOf h x=some rows)(hv:rows[i]?=some [v]):∃ pt,iadrAV 1 h x (.int k i)=some pt∧loadAV 1 false h pt=some v:=by
 cases x <;> first | (simp [rowsOf]at hr; done) | skip
 case sl rs=>
  simp only [rowsOf,Option.some.injEq]at hr; subst hr;exact ⟨.fptr [v] 0,by simp [iadrAV,hv],by simp [cut,mkVal]⟩
 case tsl rs=>
  simp only [rowsOf,Option.some.injEq]at hr; subst hr;exact ⟨.fptr [v] 0,by simp [iadrAV,hv],by simp [cut,mkVal]⟩
 case nils=>
  simp only [rowsOf,Option.some.injEq]at hr; subst hr;simp at hv
 case own l ver n=>
  simp only [rowsOf]at hr;split at hr
  ·rename_i sz ver' rs wr hl
   split at hr
   ·rename_i hc
    obtain ⟨rfl,hn⟩:=hc;injection hr with hr; subst hr
    have hi:=(List.getElem?_eq_some_iff.1 hv).1;simp only [List.length_take]at hi;have hv':rs[i]?=some [v]:=by rw [← hv,List.getElem?_take,if_pos (by omega)]
    have hc:(0:Int)≤i∧(i:Int)<n:=⟨by omega,by omega⟩;exact ⟨.eptr l ver i 0,by simp [iadrAV,hl,hn,hc,hv'],by simp [loadAV,hl,hv',cut,mkVal]⟩
   ·cases hr
  ·cases hr
theorem rows_set{h:Heap}{x:AV}{rows:List (List AV)}{l:Nat}{vs us:List AV}(hr:rowsOf h x=some rows)(hl:h[l]?=some (.cells vs)):rowsOf (h.set l (.cells us)) x=some rows:=by
 cases x <;> first | (simp [rowsOf]at hr; done) | skip
 case own l2 ver n=>
  have hne:l≠l2:=fun e=>by subst e; simp [rowsOf,hl]at hr
  simp only [rowsOf]at hr ⊢;rw [List.getElem?_set,if_neg hne];exact hr
 all_goals exact hr
theorem len_rows{h:Heap}{x:AV}{rows:List (List AV)}(hr:rowsOf h x=some rows):lenAV h 1 x=some (.int .i64 rows.length):=by
 cases x <;> first | (simp [rowsOf]at hr; done) | skip
 case own l2 ver n=>
  simp only [rowsOf]at hr;split at hr
  ·split at hr
   ·rename_i hc
    injection hr with hr; subst hr
    simp [Nat.min_eq_left hc.2]
   ·cases hr
  ·cases hr
 all_goals (simp only [rowsOf,Option.some.injEq]at hr; subst hr; rfl)
def byteRows(bs:List Int):List (List AV):=bs.map fun n=>[AV.int .u8 n]
def absE(st:List Int)(i:Nat):List Int→List Int
 | []=>st
 | b::r=>absE (st.set (i / 8) (xo (st.getD (i / 8) 0) (sl (IntKind.u64.wrap b) (8*(i % 8:Nat))))) (i+1) r
theorem absE_len:∀ (r st:List Int) (i:Nat),(absE st i r).length=st.length
 | [],_,_=>rfl
 | b::r,st,i=>by rw [absE,absE_len r]; simp
theorem absorb_L0(G:Gam)(l:Nat)(x:AV)(bs:List Int)(hb:bs.length≤136)(tl:List AV)(N:Nat){ks:List MK}{Q:MPost}:∀ (rest:List Int) (i:Nat) (st:List Int) (h:Heap),h.length=N→bs.drop i=rest→i≤bs.length→st.length=25→h[l]?=some (.cells (wd st++tl))→rowsOf h x=some (byteRows bs)→
  (∀ env,exM G .normal ks Q env [(0,.ptr l 0),(1,x),(4,.junk),(6,.int .i64 bs.length),(7,.int .i64 bs.length)] (h.set l (.cells (wd (absE st i rest)++tl))))→
  headM G [4] Mc.q40_L0 N (.blk 0::ks) Q [(0,.ptr l 0),(1,x),(4,.junk),(6,.int .i64 bs.length),(7,.int .i64 i)] h
 | [],i,st,h,hN,hd,hi,hs,hl,hr,hk=>by
  have hi2:=drop_nil hd;have e:i=bs.length:=by omega
  subst e;have hset:h.set l (.cells (wd (absE st bs.length [])++tl))=h:=by
   simp only [absE];exact set_here hl
  refine head_go (Mc.q40_L0.eq_1) ?_
  rw [trunc_len (n:=N) hN];have:=hk;rw [hset]at this;simp;simpa using this _
 | b::rest,i,st,h,hN,hd,hi,hs,hl,hr,hk=>by
  obtain ⟨hi2,hx,hxd⟩:=drop_cons hd;have hi':ltB i bs.length=true:=ltB_iff.2 (by omega);have hw:=wrap1 (i:=i) (by unfold big; omega);obtain ⟨q,hqe,hq⟩:=quo8 (i:=i) (by omega);obtain ⟨m,hme,hm8,hm⟩:=rem8 i;simp only [absE,← hqe,← hme]at hk;have w1:IntKind.i64.wrap (8*(m:Int))=8*m:=i64_small (by omega) (by omega);have hq25:q<25:=by omega
  obtain ⟨pt,p1,p2⟩:=at_rows (h:=h) (x:=x) (rows:=byteRows bs) (i:=i) (v:=.int .u8 b) (k:=.i64) hr (by simp [byteRows,hx]);have aa:=fun st0 h=>op_aadr (G:=G) (s:=st0) (h:=h) (len:=25) (size:=1) (l:=l) (off:=0) (i:=q) (k:=.i64) hq25 (by decide)
  have cc:=ld_cell (h:=h) (l:=l) hl (vs:=wd st++tl) (off:=q) (v:=.int .u64 (st.getD q 0)) (by rw [List.getElem?_append_left (by simp; omega)]; exact get_wd (by omega));have sc:=fun v=>st_cell (h:=h) (l:=l) (off:=q) (vs:=wd st++tl) (k:=.u64) (n:=v) hl (by simp; omega)
  have es:∀ v,(wd st++tl).set q (.int .u64 v)=wd (st.set q v)++tl:=fun v=>by rw [List.set_append_left _ _ (by simp; omega),set_wd]
  simp only [es]at sc;have hs2:=bin_sl (a:=IntKind.u64.wrap b) (b:=8*(m:Int)) (k:=.i64) (by omega);have ih:=absorb_L0 G l x bs hb tl N rest (i+1) (st.set q (xo (st.getD q 0) (sl (IntKind.u64.wrap b) (8*(m:Int))))) (h.set l (.cells (wd (st.set q (xo (st.getD q 0) (sl (IntKind.u64.wrap b) (8*(m:Int)))))++tl))) (by simpa using hN) hxd (by omega) (by simpa using hs) (by rw [List.getElem?_set,if_pos rfl,if_pos (List.getElem?_eq_some_iff.1 hl).1]) (rows_set hr hl) (by simpa [List.set_set] using hk);generalize st.getD q 0=v0 at cc ih;simp only [Nat.zero_add,Nat.mul_one]at aa;refine head_go (Mc.q40_L0.eq_1) ?_
  rw [trunc_len (n:=N) hN];simp [hi',hq,hm,w1,aa,cc,p1,p2,hs2,sc,hw,-stAV_ptr,-loadAV];refine head_of ?_
  rw [trunc_len (n:=N) (by simpa using hN)];simpa [wd] using ih
def F_absorb(args:List AV)(h:Heap):Option (AV×Heap):=
 match args with
 | [.ptr l 0,x]=>match h[l]?,rowsOf h x with
  | some (.cells vs),some rows=>match decK .u64 (vs.take 25),decRows (rOne (eKind .u8)).dec rows with
   | some st,some bs=>if st.length=25∧bs.length≤136 then some (.tup [],h.set l (.cells (wd (permE (fun st c=>roundE st offsL c) (absE st 0 bs) constL)++vs.drop 25)))else none
   | _,_=>none
  | _,_=>none
 | _=>none
theorem permute_call{G:Gam}(hP:G Fn.q75=some (.pure F_Permute)){st:List Int}(hs:st.length=25)(st0:Bool)(h:Heap):opV G st0 h (.call Fn.q75) (some [.agg (wd st)])=some (.agg (wd (permE (fun st c=>roundE st offsL c) st constL)),h):=by
 have hu:=F1_use (A:=eAgg rW) (R:=eAgg rW) (f:=fun st=>if st.length=25 then some (permE (fun st c=>roundE st offsL c) st constL)else none) (x:=st) (r:=permE (fun st c=>roundE st offsL c) st constL) (if_pos hs)
 generalize permE (fun st c=>roundE st offsL c) st constL=r at hu ⊢
 exact op_call hP (us:=[.agg (wd st)]) (by simp) hu (.inr (by simp [owns,ownsL]))
theorem byte_rows(bs:List Int):bs.map (rOne (eKind .u8)).enc=byteRows bs:=rfl
theorem absorb_ok(G:Gam)(hP:G Fn.q75=some (.pure F_Permute)):∀ args h r h',F_absorb args h=some (r,h')→wpM G Mc.q40 (genQ Rs.q40 r h') [] (frInit Ks.q40 args) h:=by
 intro args h r h' he
 unfold F_absorb at he
 split at he
 ·rename_i l x
  split at he
  ·rename_i vs rows hl hr
   split at he
   ·rename_i st bs hd1 hd2
    split at he
    ·rename_i hc
     obtain ⟨hs,hb⟩:=hc;have hpc:=fun st0 h=>permute_call hP (st:=absE st 0 bs) (by rw [absE_len]; exact hs) st0 h
     have hpl:(permE (fun st c=>roundE st offsL c) (absE st 0 bs) constL).length=25:=by rw [permE_len (fun st c=>roundE_len),absE_len]; exact hs
     generalize permE (fun st c=>roundE st offsL c) (absE st 0 bs) constL=p at he hpc hpl;injection he with he; injection he with h1 h2; subst h1 h2
     have e1:=decK_ed _ hd1;have e2:vs=wd st++vs.drop 25:=by
      show vs=st.map (AV.int .u64)++vs.drop 25
      rw [← e1]; exact (List.take_append_drop 25 vs).symm
     have e3:=decRows_ed (rOne (eKind .u8)) hd2;rw [byte_rows]at e3;subst e3;generalize vs.drop 25=tl at e2 ⊢;subst e2;have hll:=(List.getElem?_eq_some_iff.1 hl).1;have hml:(absE st 0 bs).length=25:=by rw [absE_len]; exact hs
     have l0:=fun ks Q hk=>absorb_L0 G l x bs hb tl h.length (ks:=ks) (Q:=Q) bs 0 st h rfl rfl (by omega) hs hl hr hk
     generalize absE st 0 bs=m at l0 hpc hml;have hl2:(h.set l (.cells (wd m++tl)))[l]?=some (.cells (wd m++tl)):=by rw [List.getElem?_set,if_pos rfl,if_pos hll]
     have ld:loadAV 25 true (h.set l (.cells (wd m++tl))) (.ptr l 0)=some (.agg (wd m)):=by
      have hc:cut (wd m++tl) 0 25=wd m:=by
       unfold cut; rw [List.drop_zero,List.take_left' (by simpa using hml)]
      simp only [loadAV,hl2,hc,mkVal];simp [hml]
     have st1:stAV 25 (h.set l (.cells (wd m++tl))) (.ptr l 0) (.agg (wd p))=some (h.set l (.cells (wd p++tl))):=by
      have hcs:(AV.agg (wd p)).cells=wd p:=rfl;have hsp:setAt (wd m++tl) 0 (wd p)=wd p++tl:=by
       rw [setAt_splice _ _ _ (by simp; omega),List.take_zero,List.nil_append];congr 1
       rw [Nat.zero_add,List.length_map,hpl,List.drop_left' (by simpa using hml)]
      simp only [stAV,hcs,hl2,hsp];rw [if_pos ⟨by simpa using hpl,by omega,all_one (fun _=>rfl) p⟩,if_pos (by simp; omega),List.set_set]
     have hlen:=len_rows hr;have hbl:(byteRows bs).length=bs.length:=by simp [byteRows]
     rw [hbl]at hlen;rw [wpM_go];simp at l0;simp [Mc.q40,frInit,Ks.q40,hlen,-lenAV];refine l0 _ _ (fun env=>?_)
     simp [ld,hpc,st1,genQ,Rs.q40,-loadAV,-stAV_ptr]
    ·cases he
   ·cases he
  ·cases he
 ·cases he
end Go.Proofs.YtpefhfiehfkocaaGreatDoor
namespace Go.Proofs.YtpefhfiehfkocaaGreatDoor
open Go.RowKit Go.IntWalk
theorem rows_more{h:Heap}{x:AV}{rows:List (List AV)}(hr:rowsOf h x=some rows)(t:Heap):rowsOf (h++t) x=some rows:=by
 cases x <;> first | (simp [rowsOf]at hr; done) | skip
 case own l2 ver n=>
  have hl:l2<h.length:=by
   rcases Nat.lt_or_ge l2 h.length with g | g
   ·exact g
   ·simp [rowsOf,List.getElem?_eq_none g]at hr
  simp only [rowsOf]at hr ⊢;rw [List.getElem?_append_left hl];exact hr
 all_goals exact hr
theorem op_app_nils{G:Gam}{s:Bool}{h:Heap}{b:Nat}{x:AV}{rows:List (List AV)}(hx:rowsOf h x=some rows)(hs:sizesOk 1 rows=true)(h1:rows.length*b≤byteMax)(h2:rows.length≤byteMax) :
  opV G s h (.app false 1 b) (some [.nils,x])=some (if rows=[]then (.nils,h)else (.own h.length 0 rows.length,h++[.arr 1 0 rows true])):=by
 rw [opV_eff rfl]
 simp only [evalEff,appRows,Bool.false_eq_true,if_false,hx,hs,if_true,appAV]
 split
 ·rfl
 ·rw [if_pos ⟨h1,h2⟩]
def F_Clone(args:List AV)(h:Heap):Option (AV×Heap):=
 match args with
 | [.ptr l 0]=>match h[l]? with
  | some (.cells vs)=>match vs[25]? with
   | some rv=>match rowsOf h rv with
    | some rows=>if vs.length=54∧vs.all oneC=true∧sizesOk 1 rows=true∧rows.length≤byteMax then
      some (.ptr h.length 0,if rows=[]then h++[.cells (vs.set 25 .nils)]else h++[.cells (vs.set 25 (.own (h.length+1) 0 rows.length)),.arr 1 0 rows true])else none
    | none=>none
   | none=>none
  | _=>none
 | _=>none
theorem Clone_ok(G:Gam):∀ args h r h',F_Clone args h=some (r,h')→wpM G Mc.q43 (genQ Rs.q43 r h') [] (frInit Ks.q43 args) h:=by
 intro args h r h' he
 unfold F_Clone at he
 split at he
 ·rename_i l
  split at he
  ·rename_i vs hl
   split at he
   ·rename_i rv hv
    split at he
    ·rename_i rows hr
     split at he
     ·rename_i hc
      obtain ⟨c1,c2,c3,c4⟩:=hc;injection he with he; injection he with h1 h2; subst h1
      have hll:=(List.getElem?_eq_some_iff.1 hl).1;have ld0:loadAV 54 true h (.ptr l 0)=some (.agg vs):=ld_all hl c1;have st1:∀ Z:List AV,Z.length=54→stAV 54 (h++[.cells Z]) (.ptr h.length 0) (.agg vs)=some (h++[.cells vs]):=fun Z hZ=>by
       rw [st_all (l:=h.length) (vs:=Z) (by simp) hZ c1 (by omega) c2]; simp
      have hl2:∀ t:Heap,(h++t)[l]?=some (.cells vs):=fun t=>by rw [List.getElem?_append_left hll]; exact hl
      have ld1:loadAV 1 false (h++[.cells vs]) (.ptr l 25)=some rv:=ld_cell (hl2 _) hv;have ap:=fun st0=>op_app_nils (G:=G) (s:=st0) (b:=1) (rows_more hr [.cells vs]) c3 (by omega) c4
      rw [wpM_go];by_cases e:rows=[]
      ·rw [if_pos e]at h2; subst h2
       simp only [e,if_true]at ap;have st2:stAV 1 (h++[.cells vs]) (.ptr h.length 25) .nils=some (h++[.cells (vs.set 25 .nils)]):=by
        simp [AV.cells,oneC,setAt,c1]
       simp [Mc.q43,frInit,Ks.q43,ld0,st1,ld1,ap,st2,genQ,Rs.q43,-loadAV,-stAV_ptr]
      ·rw [if_neg e]at h2; subst h2
       simp only [e,if_false]at ap;have st2:stAV 1 (h++[.cells vs,.arr 1 0 rows true]) (.ptr h.length 25) (.own (h.length+1) 0 rows.length)=some (h++[.cells (vs.set 25 (.own (h.length+1) 0 rows.length)),.arr 1 0 rows true]):=by
        simp [AV.cells,oneC,setAt,c1]
       simp [Mc.q43,frInit,Ks.q43,ld0,st1,ld1,ap,st2,genQ,Rs.q43,-loadAV,-stAV_ptr]
     ·cases he
    ·cases he
   ·cases he
  ·cases he
 ·cases he
def newS:List AV:=[.int .u64 0,.int .u64 0,.int .u64 0,.int .u64 0,.int .u64 0,.int .u64 0,.int .u64 0,.int .u64 0,.int .u64 0,.int .u64 0,.int .u64 0,.int .u64 0,.int .u64 0,.int .u64 0,.int .u64 0,.int .u64 0,.int .u64 0,.int .u64 0,.int .u64 0,.int .u64 0,.int .u64 0,.int .u64 0,.int .u64 0,.int .u64 0,.int .u64 0,.nils,.int .i64 0,.int .u64 0,.int .u64 0,.int .u64 0,.int .u64 0,.int .u64 0,.int .u64 0,.int .u64 0,.int .u64 0,.int .u64 0,.int .u64 0,.int .u64 0,.int .u64 0,.int .u64 0,.int .u64 0,.int .u64 0,.int .u64 0,.int .u64 0,.int .u64 0,.int .u64 0,.int .u64 0,.int .u64 0,.int .u64 0,.int .u64 0,.int .u64 0,.int .u64 0,.str [],.str []]
def F_New(args:List AV)(h:Heap):Option (AV×Heap):=
 match args with
 | []=>some (.ptr h.length 0,h++[.cells newS])
 | _=>none
theorem New_ok(G:Gam):∀ args h r h',F_New args h=some (r,h')→wpM G Mc.digest_New (genQ Rs.digest_New r h') [] (frInit Ks.digest_New args) h:=by
 intro args h r h' he
 unfold F_New at he
 split at he
 ·injection he with he; injection he with h1 h2; subst h1 h2
  rw [wpM_go];simp [Mc.digest_New,frInit,Ks.digest_New,bldAV,genQ,Rs.digest_New];rfl
 ·cases he
end Go.Proofs.YtpefhfiehfkocaaGreatDoor
namespace Go.Proofs.YtpefhfiehfkocaaGreatDoor
open Go.RowKit Go.IntWalk
abbrev sp(st:List Int)(rest:AV)(tk:Int)(T:List AV):List AV:=wd st++rest::.int .i64 tk::T
section
variable {st:List Int} {rest:AV} {tk:Int} {T:List AV}
theorem sp_25(hs:st.length=25):(sp st rest tk T)[25]?=some rest:=by
 rw [List.getElem?_append_right (by simp [hs])]; simp [hs]
theorem sp_26(hs:st.length=25):(sp st rest tk T)[26]?=some (.int .i64 tk):=by
 rw [List.getElem?_append_right (by simp [hs])]; simp [hs]
theorem sp_set25(hs:st.length=25)(r:AV):(sp st rest tk T).set 25 r=sp st r tk T:=by
 rw [List.set_append_right _ _ (by simp [hs])]; simp [hs]
theorem sp_set26(hs:st.length=25)(n:Int):(sp st rest tk T).set 26 (.int .i64 n)=sp st rest n T:=by
 rw [List.set_append_right _ _ (by simp [hs])]; simp [hs]
theorem sp_take(hs:st.length=25):(sp st rest tk T).take 25=wd st:=by rw [List.take_left' (by simpa using hs)]
theorem sp_drop(hs:st.length=25):(sp st rest tk T).drop 25=rest::.int .i64 tk::T:=by rw [List.drop_left' (by simpa using hs)]
theorem sp_len(hs:st.length=25):(sp st rest tk T).length=27+T.length:=by simp [hs]; omega
end
theorem stAV_cell{h:Heap}{l off:Nat}{vs:List AV}{v:AV}(hl:h[l]?=some (.cells vs))(ho:off<vs.length)(hc:v.cells=[v])(h1:oneC v=true):stAV 1 h (.ptr l off) v=some (h.set l (.cells (vs.set off v))):=by
 simp [hl,hc,h1,setAt,show off+1≤vs.length by omega]
def stepS(st:List Int)(bs:List Int):List Int:=permE (fun st c=>roundE st offsL c) (absE st 0 (bs.take 136)) constL
theorem stepS_len{st bs:List Int}:(stepS st bs).length=st.length:=by unfold stepS; rw [permE_len (fun st c=>roundE_len),absE_len]
def hold(st:List Int)(tk:Int)(T:List AV)(bs:List Int)(os:List (List (List AV))):Heap:=
 if bs=[]then .cells (sp st .nils tk T)::os.map (fun r=>.arr 1 0 r false)
 else .cells (sp st (.own (1+os.length) 0 bs.length) tk T)::(os.map (fun r=>Blk.arr 1 0 r false)++[.arr 1 0 (byteRows bs) true])
theorem lowH_arrs(n:Nat):∀ os:List (List (List AV)),lowH n (os.map fun r=>Blk.arr 1 0 r false)=true
 | []=>rfl
 | o::os=>by simp [lowH,lowB,lowH_arrs n os]
theorem lowL_app(n:Nat):∀ (a b:List AV),lowL n (a++b)=(lowL n a&&lowL n b)
 | [],b=>by simp [lowL]
 | x::a,b=>by simp [lowL,lowL_app n a b,Bool.and_assoc]
theorem lowL_wd(n:Nat):∀ st:List Int,lowL n (wd st)=true
 | []=>rfl
 | x::st=>by simp [lowL,low]; exact lowL_wd n st
def wfr(x:AV)(e6:AV)(i:Int):List (Nat×AV):=[(0,.ptr 0 0),(1,x),(4,.int .i64 0),(6,e6),(7,x),(8,.int .i64 1),(9,.int .i64 i)]
theorem hold_trunc{n:Nat}(hn:1≤n)(hn2:n≤2)(fr:List (Nat×AV)){st:List Int}{tk:Int}{T:List AV}{bs:List Int}{os:List (List (List AV))}(hb:bs≠[])(ho:n=2∨os=[]∨True)(hlen:n≤1+os.length∨(hold st tk T bs os).length=n):trunc n fr (hold st tk T bs os)=hold st tk T bs os:=by
 rcases hlen with hlen | hlen
 ·unfold trunc
  have:lowH n ((hold st tk T bs os).take n)=false:=by
   obtain ⟨m,rfl⟩:∃ m,n=m+1:=⟨n-1,by omega⟩
   simp only [hold,if_neg hb,List.take_succ_cons,lowH,lowB,lowL_app,lowL,low];have:¬ (1+os.length<m+1):=by omega
   simp [this]
  rw [this]; simp
 ·exact trunc_len hlen
def wrRun:Nat→List Int→List Int→List (List (List AV))→List Int×List Int×List (List (List AV))
 | 0,st,bs,os=>(st,bs,os)
 | N+1,st,bs,os=>if bs.length<136 then (st,bs,os)else wrRun N (stepS st bs) (bs.drop 136) (os++[byteRows bs])
theorem wr_L1(G:Gam)(hA:G Fn.q40=some (.gen F_absorb))(x e6:AV)(tk:Int)(T:List AV){ks:List MK}{Q:MPost}:∀ (N:Nat) (st bs:List Int) (os:List (List (List AV))),bs.length<136*(N+1)→bs.length≤big→st.length=25→(bs=[]→os≠[])→
  (∀ env,exM G .normal ks Q env (wfr x e6 0) (trunc 2 (wfr x e6 0) (hold (wrRun N st bs os).1 tk T (wrRun N st bs os).2.1 (wrRun N st bs os).2.2)))→
  headM G [] Mc.q42_L1 2 (.blk 2::ks) Q (wfr x e6 0) (hold st tk T bs os)
 | N,st,bs,os,hN,hbig,hs,ho,hk=>by
  by_cases hlt:bs.length<136
  ·
   have hrun:wrRun N st bs os=(st,bs,os):=by cases N <;> simp [wrRun,hlt]
   rw [hrun]at hk;refine head_go (Mc.q42_L1.eq_1) ?_
   have hj:junkAll [] (wfr x e6 0)=wfr x e6 0:=by simp [wfr,junkAll]
   rw [hj];generalize hhh:trunc 2 (wfr x e6 0) (hold st tk T bs os)=hh at hk;have h0:∃ rv,hh[0]?=some (.cells (sp st rv tk T))∧lenAV hh 1 rv=some (.int .i64 bs.length):=by
    by_cases hb:bs=[]
    ·subst hb
     refine ⟨.nils,?_,rfl⟩
     rw [← hhh];unfold trunc;split
     ·rw [List.getElem?_take,if_pos (by omega)]; simp [hold]
     ·simp [hold]
    ·have ht:trunc 2 (wfr x e6 0) (hold st tk T bs os)=hold st tk T bs os:=by
      refine hold_trunc (by omega) (by omega) _ hb (.inl rfl) ?_
      cases os with
      | nil=>right; simp [hold,hb]
      | cons o os=>left; simp; omega
     rw [← hhh,ht];refine ⟨.own (1+os.length) 0 bs.length,by simp [hold,hb],?_⟩
     have hL:(hold st tk T bs os)[1+os.length]?=some (.arr 1 0 (byteRows bs) true):=by
      simp only [hold,if_neg hb];rw [Nat.add_comm,List.getElem?_cons_succ,List.getElem?_append_right (by simp)];simp
     simp
   obtain ⟨rv,g1,g2⟩:=h0;have ld:=ld_cell g1 (sp_25 hs);have hc:ltB bs.length 136=true:=ltB_iff.2 (by omega);have hk':=hk;simp only [wfr]at hk' ⊢;simp [ld,g2,sc_geq,hc,-loadAV,-lenAV];simpa using hk' _
  ·
   cases N with
   | zero=>omega
   | succ N=>
    have hb:bs≠[]:=fun e=>by subst e; simp at hlt
    have ht:trunc 2 (wfr x e6 0) (hold st tk T bs os)=hold st tk T bs os:=by
     refine hold_trunc (by omega) (by omega) _ hb (.inl rfl) ?_
     cases os with
     | nil=>right; simp [hold,hb]
     | cons o os=>left; simp; omega
    have hrun:wrRun (N+1) st bs os=wrRun N (stepS st bs) (bs.drop 136) (os++[byteRows bs]):=by simp [wrRun,hlt]
    rw [hrun]at hk;have hs2:(stepS st bs).length=25:=by rw [stepS_len]; exact hs
    have ih:=wr_L1 G hA x e6 tk T (ks:=ks) (Q:=Q) N (stepS st bs) (bs.drop 136) (os++[byteRows bs]) (by simp; omega) (by simp; omega) hs2 (fun _=>by simp) hk;obtain ⟨hh,hhh⟩:∃ hh,hh=hold st tk T bs os:=⟨_,rfl⟩
    have hlen:hh.length=2+os.length:=by rw [hhh]; simp [hold,hb]; omega
    have g0:hh[0]?=some (.cells (sp st (.own (1+os.length) 0 bs.length) tk T)):=by rw [hhh]; simp [hold,hb]
    have g1:hh[1+os.length]?=some (.arr 1 0 (byteRows bs) true):=by
     rw [hhh];simp only [hold,if_neg hb];rw [Nat.add_comm,List.getElem?_cons_succ,List.getElem?_append_right (by simp)];simp
    have hbl:(byteRows bs).length=bs.length:=by simp [byteRows]
    have hsz:∀ l:List Int,sizesOk 1 (byteRows l)=true:=fun l=>by
     induction l with
     | nil=>rfl
     | cons a l ih=>simpa [byteRows,sizesOk] using ih
    have ld:=ld_cell g0 (sp_25 hs);have hc:ltB bs.length 136=false:=ltB_not.2 (by omega);have sl1:∀ st0,opV G st0 hh (.slcf 1 false true false) (some [.own (1+os.length) 0 bs.length,.int .i64 136])=some (.own (1+os.length) 0 136,hh):=fun st0=>by
     have h136:(136:Int)≤bs.length:=by omega
     cases st0 <;> simp [opV,AO.loud,evalStill,evalAll,evalAO,AO.quiet,evalEff,slcArgs,slc1,slcOwn,slcPre,h136]
    have hr1:rowsOf hh (.own (1+os.length) 0 136)=some (byteRows (bs.take 136)):=by
     have h136:136≤bs.length:=by omega
     simp [rowsOf,g1,h136,byteRows]
    have cA:F_absorb [.ptr 0 0,.own (1+os.length) 0 136] hh=some (.tup [],hh.set 0 (.cells (sp (stepS st bs) (.own (1+os.length) 0 bs.length) tk T))):=by
     have e1:decRows (rOne (eKind .u8)).dec (byteRows (bs.take 136))=some (bs.take 136):=decRows_de (rOne (eKind .u8)) _;have e2:(bs.take 136).length≤136:=by simp; omega
     simp only [F_absorb,g0,hr1,sp_take hs,decK_de,e1,sp_drop hs];rw [if_pos ⟨hs,e2⟩];rfl
    have cA':opV G false hh (.call Fn.q40) (some [.ptr 0 0,.own (1+os.length) 0 136])=some (.tup [],hh.set 0 (.cells (sp (stepS st bs) (.own (1+os.length) 0 bs.length) tk T))):=by
     rw [op_call_gen hA]; exact cA
    obtain ⟨h1,hh1⟩:∃ h1,h1=hh.set 0 (.cells (sp (stepS st bs) (.own (1+os.length) 0 bs.length) tk T)):=⟨_,rfl⟩
    rw [← hh1]at cA';have q0:h1[0]?=some (.cells (sp (stepS st bs) (.own (1+os.length) 0 bs.length) tk T)):=by rw [hh1,List.getElem?_set_self (by omega)]
    have q1:h1[1+os.length]?=some (.arr 1 0 (byteRows bs) true):=by rw [hh1,List.getElem?_set_ne (by omega)]; exact g1
    have ld2:=ld_cell q0 (sp_25 hs2);have sl2:opV G false h1 (.slcf 1 true false false) (some [.own (1+os.length) 0 bs.length,.int .i64 136])=some (.sl (byteRows (bs.drop 136)),h1.set (1+os.length) (.arr 1 0 (byteRows bs) false)):=by
     have e1:frz h1 (.own (1+os.length) 0 bs.length)=some (.sl (byteRows bs),h1.set (1+os.length) (.arr 1 0 (byteRows bs) false)):=by
      have:bs.length≤(byteRows bs).length:=by omega
      simp [frz,view,rowsOf,q1,owns,freezeAll,freeze1,hbl,List.take_of_length_le]
     have e2:slcRows 1 (byteRows bs) (some 136) none none=some (.sl (byteRows (bs.drop 136))):=by
      have h136:(136:Int)≤bs.length:=by omega
      have d1:(byteRows bs).drop 136=byteRows (bs.drop 136):=by simp [byteRows]
      have t1:(byteRows bs).take bs.length=byteRows bs:=List.take_of_length_le (by omega);simp [slcRows,hsz,hbl,h136,d1,t1]
     simp [opV,AO.loud,evalAll,evalAO,AO.quiet,evalEff,slcArgs,slc1,slcOwn,slcPre,e1,e2]
    obtain ⟨h2,hh2⟩:∃ h2,h2=h1.set (1+os.length) (.arr 1 0 (byteRows bs) false):=⟨_,rfl⟩
    rw [← hh2]at sl2;have r0:h2[0]?=some (.cells (sp (stepS st bs) (.own (1+os.length) 0 bs.length) tk T)):=by rw [hh2,List.getElem?_set_ne (by omega)]; exact q0
    have hl2:h2.length=2+os.length:=by rw [hh2,hh1]; simp [hlen]
    have hh2':h2=.cells (sp (stepS st bs) (.own (1+os.length) 0 bs.length) tk T)::(os.map (fun r=>Blk.arr 1 0 r false)++[.arr 1 0 (byteRows bs) false]):=by
     rw [hh2,hh1,hhh];simp only [hold,if_neg hb,List.set_cons_zero];rw [Nat.add_comm,List.set_cons_succ,List.set_append_right _ _ (by simp)];simp
    have ap:=fun st0=>op_app_nils (G:=G) (s:=st0) (h:=h2) (b:=1) (x:=.sl (byteRows (bs.drop 136))) (rows:=byteRows (bs.drop 136)) rfl (hsz _) (by simp [byteRows]; unfold big at hbig; unfold byteMax; omega) (by simp [byteRows]; unfold big at hbig; unfold byteMax; omega)
    refine head_go (Mc.q42_L1.eq_1) ?_
    have hj:junkAll [] (wfr x e6 0)=wfr x e6 0:=by simp [wfr,junkAll]
    rw [hj,ht,← hhh];simp only [wfr]at ih ⊢;by_cases hd:bs.drop 136=[]
    ·have hd':byteRows (bs.drop 136)=[]:=by rw [hd]; rfl
     simp only [hd',if_true]at ap sl2;have stc:=stAV_cell r0 (off:=25) (v:=.nils) (by rw [sp_len hs2]; omega) rfl rfl;rw [sp_set25 hs2]at stc;have hfin:h2.set 0 (.cells (sp (stepS st bs) .nils tk T))=hold (stepS st bs) tk T (bs.drop 136) (os++[byteRows bs]):=by
      rw [hh2']; simp [hold,hd]
     rw [hfin]at stc;simp [ld,sc_geq,hc,sl1,cA',ld2,sl2,ap,stc,-loadAV,-stAV_ptr];simpa using ih
    ·have hd':byteRows (bs.drop 136)≠[]:=fun e=>hd (List.map_eq_nil_iff.1 e)
     simp only [hd',if_false]at ap;have hln:(byteRows (bs.drop 136)).length=(bs.drop 136).length:=by simp [byteRows]
     have stc:=stAV_cell (h:=h2++[.arr 1 0 (byteRows (bs.drop 136)) true]) (l:=0) (vs:=sp (stepS st bs) (.own (1+os.length) 0 bs.length) tk T) (by rw [List.getElem?_append_left (by omega)]; exact r0) (off:=25) (v:=.own h2.length 0 (byteRows (bs.drop 136)).length) (by rw [sp_len hs2]; omega) rfl rfl;rw [sp_set25 hs2]at stc;have hfin:(h2++[Blk.arr 1 0 (byteRows (bs.drop 136)) true]).set 0 (.cells (sp (stepS st bs) (.own h2.length 0 (byteRows (bs.drop 136)).length) tk T))=hold (stepS st bs) tk T (bs.drop 136) (os++[byteRows bs]):=by
      rw [hl2,hln,hh2'];simp only [hold,if_neg hd,List.length_append,List.length_singleton];rw [show 1+(os.length+1)=2+os.length by omega];simp
     rw [hfin]at stc;simp [ld,sc_geq,hc,sl1,cA',ld2,sl2,ap,stc,-loadAV,-stAV_ptr];simpa using ih
end Go.Proofs.YtpefhfiehfkocaaGreatDoor
