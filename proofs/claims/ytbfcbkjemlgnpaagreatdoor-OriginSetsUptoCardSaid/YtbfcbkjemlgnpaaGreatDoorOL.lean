/- slices.Clone at this program's instances. slices.SortFunc of files by their paths at this program. slices.Grow at this program's instances: the shelf's contract,turned. -/
import Derived.Test.YtbfcbkjemlgnpaaGreatDoorChecked
import Derived.Test.YtbfcbkjemlgnpaaGreatDoorRmJ
import Derived.Shelf.RegionOpenPlain
import Derived.WalkKit
import Derived.Deep.LoopGhost
import Derived.Lib.Walk
import Derived.Lib.SliceRun
import Derived.KernelRfl
import Derived.Test.YtbfcbkjemlgnpaaGreatDoorShelf
import Derived.Shelf.SlSortCmp.NoneTotal
import Derived.Shelf.Spec.SlicesGrow
namespace Go.Proofs.YtbfcbkjemlgnpaaGreatDoor
open Go.RowKit Go.Lib
theorem mixed46:Tryz.prog.follows .mixedOrders=true:=by kernel_rfl
theorem in81:Tryz.prog.underlying 81=some (.slice 9):=by kernel_rfl
theorem inf9:∃ (i0:TypeInfo) (z:Value),Tryz.prog.info? 9=some i0∧i0.zero=some z∧i0.size=1∧i0.bytes=16∧z.cells.size=1:=
 ⟨(Tryz.prog.info? 9).getD default,(((Tryz.prog.info? 9).getD default).zero).getD (.bool false),by kernel_rfl,by kernel_rfl,by kernel_rfl,by kernel_rfl,by kernel_rfl⟩
theorem cmp81(w:World)(a:Option Addr)(n c n' c':Nat):(binOp .eql 81 (.slice a n c) (.slice none n' c')).run Tryz.prog w=.ok (.bool a.isNone) w:=Lib.run_eql_slice_nil w _ _ a n c n' c' in81
set_option maxHeartbeats 2000000 in
set_option maxRecDepth 100000 in
theorem clone_155(a:Addr)(n c:Nat)(news:List Value)(w:World)(hl:news.length=n*1)(hn:n≤maxLen)(hbig:n*16≤140737488355328)(hc:∀ j u,news[j]?=some u→w.cell? (a.add j)=some u)(h1:∀ u∈news,u.oneCell'=true) :
  Calls Tryz.prog 155 #[.slice (some a) n c] w fun o w'=>(∃ v',o=.returned v'∧w'.ownsRow w.heap.size 9 1 v' n news)∧Below w.heap.size w w':=by
 obtain ⟨i0,z,hi,hz0,hz1,hz2,hzs⟩:=inf9
 have mixed:=mixed46
 have q:=cmp81
 have u:∀ w,Sem.run Tryz.prog (underlying 81) w=.ok (TypeDesc.slice 9) w:=run_underlying in81
 have A:Aside (∀ j u,news[j]?=some u→w.cell? (a.add j)=some u):=hc
 clear hc
 go_enter Tryz.func155,Tryz.ntmps155
 go_wp2_with (at_builtin; refine wpList_append_own _ rfl _ _ 81 rfl w.heap.size 9 i0 z 1 16 in81 hi hz0 hz1 hz2 hzs (by decide) _ _ _ rfl (World.ownsRow_made w #[] 0 (Nat.le_refl _) (Nat.zero_le _) (by simp)) a n c news rfl ?q1 ?q2 ?q3 ?q4 ?q5 ?q6 ?_)
 case q1=>exact hl
 case q2=>intro j u hj; exact Lib.cell?_alloc_some _ (A.out j u hj)
 case q3=>exact h1
 case q4=>rw [Nat.zero_add]; exact hn
 case q5=>rw [Nat.zero_add]; exact hbig
 case q6=>simp
 intro v' w1 hown hgrow hnil
 go_wp2
 go_ret
 refine ⟨⟨v',rfl,by simpa using hown⟩,?_⟩
 exact ((Below.refl _ w).alloc (Nat.le_refl _) _).grown hgrow (by simp) (by intro k hk; simp [Value.ownBlock]at hk; omega)
set_option maxHeartbeats 2000000 in
set_option maxRecDepth 100000 in
theorem clonenil_155(n c:Nat)(w:World):Calls Tryz.prog 155 #[.slice none n c] w fun o w'=>o=.returned (.slice none 0 0)∧w'=w:=by
 have mixed:=mixed46
 have q:=cmp81
 go_enter Tryz.func155,Tryz.ntmps155
 go_wp2
 go_ret
 exact ⟨rfl,rfl⟩
theorem cloneG_155(gv:Gv):GenOK Tryz.prog gv 155 (F_CloneG 1 16):=clone_gen clone_155 clonenil_155
theorem in95:Tryz.prog.underlying 95=some (.slice 97):=by kernel_rfl
theorem inf97:∃ (i0:TypeInfo) (z:Value),Tryz.prog.info? 97=some i0∧i0.zero=some z∧i0.size=2∧i0.bytes=32∧z.cells.size=2:=
 ⟨(Tryz.prog.info? 97).getD default,(((Tryz.prog.info? 97).getD default).zero).getD (.bool false),by kernel_rfl,by kernel_rfl,by kernel_rfl,by kernel_rfl,by kernel_rfl⟩
theorem cmp95(w:World)(a:Option Addr)(n c n' c':Nat):(binOp .eql 95 (.slice a n c) (.slice none n' c')).run Tryz.prog w=.ok (.bool a.isNone) w:=Lib.run_eql_slice_nil w _ _ a n c n' c' in95
set_option maxHeartbeats 2000000 in
set_option maxRecDepth 100000 in
theorem clone_157(a:Addr)(n c:Nat)(news:List Value)(w:World)(hl:news.length=n*2)(hn:n≤maxLen)(hbig:n*32≤140737488355328)(hc:∀ j u,news[j]?=some u→w.cell? (a.add j)=some u)(h1:∀ u∈news,u.oneCell'=true) :
  Calls Tryz.prog 157 #[.slice (some a) n c] w fun o w'=>(∃ v',o=.returned v'∧w'.ownsRow w.heap.size 97 2 v' n news)∧Below w.heap.size w w':=by
 obtain ⟨i0,z,hi,hz0,hz1,hz2,hzs⟩:=inf97
 have mixed:=mixed46
 have q:=cmp95
 have u:∀ w,Sem.run Tryz.prog (underlying 95) w=.ok (TypeDesc.slice 97) w:=run_underlying in95
 have A:Aside (∀ j u,news[j]?=some u→w.cell? (a.add j)=some u):=hc
 clear hc
 go_enter Tryz.func157,Tryz.ntmps157
 go_wp2_with (at_builtin; refine wpList_append_own _ rfl _ _ 95 rfl w.heap.size 97 i0 z 2 32 in95 hi hz0 hz1 hz2 hzs (by decide) _ _ _ rfl (World.ownsRow_made w #[] 0 (Nat.le_refl _) (Nat.zero_le _) (by simp)) a n c news rfl ?q1 ?q2 ?q3 ?q4 ?q5 ?q6 ?_)
 case q1=>exact hl
 case q2=>intro j u hj; exact Lib.cell?_alloc_some _ (A.out j u hj)
 case q3=>exact h1
 case q4=>rw [Nat.zero_add]; exact hn
 case q5=>rw [Nat.zero_add]; exact hbig
 case q6=>simp
 intro v' w1 hown hgrow hnil
 go_wp2
 go_ret
 refine ⟨⟨v',rfl,by simpa using hown⟩,?_⟩
 exact ((Below.refl _ w).alloc (Nat.le_refl _) _).grown hgrow (by simp) (by intro k hk; simp [Value.ownBlock]at hk; omega)
set_option maxHeartbeats 2000000 in
set_option maxRecDepth 100000 in
theorem clonenil_157(n c:Nat)(w:World):Calls Tryz.prog 157 #[.slice none n c] w fun o w'=>o=.returned (.slice none 0 0)∧w'=w:=by
 have mixed:=mixed46
 have q:=cmp95
 go_enter Tryz.func157,Tryz.ntmps157
 go_wp2
 go_ret
 exact ⟨rfl,rfl⟩
theorem cloneG_157(gv:Gv):GenOK Tryz.prog gv 157 (F_CloneG 2 32):=clone_gen clone_157 clonenil_157
theorem in80:Tryz.prog.underlying 80=some (.slice 94):=by kernel_rfl
theorem inf94:∃ (i0:TypeInfo) (z:Value),Tryz.prog.info? 94=some i0∧i0.zero=some z∧i0.size=2∧i0.bytes=32∧z.cells.size=2:=
 ⟨(Tryz.prog.info? 94).getD default,(((Tryz.prog.info? 94).getD default).zero).getD (.bool false),by kernel_rfl,by kernel_rfl,by kernel_rfl,by kernel_rfl,by kernel_rfl⟩
theorem cmp80(w:World)(a:Option Addr)(n c n' c':Nat):(binOp .eql 80 (.slice a n c) (.slice none n' c')).run Tryz.prog w=.ok (.bool a.isNone) w:=Lib.run_eql_slice_nil w _ _ a n c n' c' in80
set_option maxHeartbeats 2000000 in
set_option maxRecDepth 100000 in
theorem clone_145(a:Addr)(n c:Nat)(news:List Value)(w:World)(hl:news.length=n*2)(hn:n≤maxLen)(hbig:n*32≤140737488355328)(hc:∀ j u,news[j]?=some u→w.cell? (a.add j)=some u)(h1:∀ u∈news,u.oneCell'=true) :
  Calls Tryz.prog 145 #[.slice (some a) n c] w fun o w'=>(∃ v',o=.returned v'∧w'.ownsRow w.heap.size 94 2 v' n news)∧Below w.heap.size w w':=by
 obtain ⟨i0,z,hi,hz0,hz1,hz2,hzs⟩:=inf94
 have mixed:=mixed46
 have q:=cmp80
 have u:∀ w,Sem.run Tryz.prog (underlying 80) w=.ok (TypeDesc.slice 94) w:=run_underlying in80
 have A:Aside (∀ j u,news[j]?=some u→w.cell? (a.add j)=some u):=hc
 clear hc
 go_enter Tryz.func145,Tryz.ntmps145
 go_wp2_with (at_builtin; refine wpList_append_own _ rfl _ _ 80 rfl w.heap.size 94 i0 z 2 32 in80 hi hz0 hz1 hz2 hzs (by decide) _ _ _ rfl (World.ownsRow_made w #[] 0 (Nat.le_refl _) (Nat.zero_le _) (by simp)) a n c news rfl ?q1 ?q2 ?q3 ?q4 ?q5 ?q6 ?_)
 case q1=>exact hl
 case q2=>intro j u hj; exact Lib.cell?_alloc_some _ (A.out j u hj)
 case q3=>exact h1
 case q4=>rw [Nat.zero_add]; exact hn
 case q5=>rw [Nat.zero_add]; exact hbig
 case q6=>simp
 intro v' w1 hown hgrow hnil
 go_wp2
 go_ret
 refine ⟨⟨v',rfl,by simpa using hown⟩,?_⟩
 exact ((Below.refl _ w).alloc (Nat.le_refl _) _).grown hgrow (by simp) (by intro k hk; simp [Value.ownBlock]at hk; omega)
set_option maxHeartbeats 2000000 in
set_option maxRecDepth 100000 in
theorem clonenil_145(n c:Nat)(w:World):Calls Tryz.prog 145 #[.slice none n c] w fun o w'=>o=.returned (.slice none 0 0)∧w'=w:=by
 have mixed:=mixed46
 have q:=cmp80
 go_enter Tryz.func145,Tryz.ntmps145
 go_wp2
 go_ret
 exact ⟨rfl,rfl⟩
theorem cloneG_145(gv:Gv):GenOK Tryz.prog gv 145 (F_CloneG 2 32):=clone_gen clone_145 clonenil_145
end Go.Proofs.YtbfcbkjemlgnpaaGreatDoor
namespace Go.Proofs.YtbfcbkjemlgnpaaGreatDoor
open Go.RowKit Go.Lib Go.Sort Go.Shelf
theorem strCmp(a b:Bs)(w:World):Calls Tryz.prog 97 #[.string ⟨a.toArray⟩,.string ⟨b.toArray⟩] w fun e w'=>e=.returned (.int .i64 (Lib.compareBytes a b))∧w'=w:=by
 have h:Calls Tryz.prog 97 #[.string ⟨a.toArray⟩,.string ⟨b.toArray⟩] w fun e w'=>e=.returned (.int .i64 (Lib.compareBytes (ByteArray.mk a.toArray).data.toList (ByteArray.mk b.toArray).data.toList))∧w'=w:=Tryz.strings_Compare ⟨a.toArray⟩ ⟨b.toArray⟩ w
 simpa using h
set_option maxHeartbeats 1000000 in
set_option maxRecDepth 100000 in
theorem cmpc_239(x y:PD)(W:World):Calls Tryz.prog 239 #[.agg (encPD x).toArray,.agg (encPD y).toArray] W fun e w'=>e=.returned (.int .i64 (cfP x y))∧∃ q os',w'=Go.Sort.grow (W.drewN q) os':=by
 obtain ⟨p,d⟩:=x
 obtain ⟨p',d'⟩:=y
 have hcon:∀ W',Calls Tryz.prog 97 #[.string ⟨p.toArray⟩,.string ⟨p'.toArray⟩] W' fun e w'=>e=.returned (.int .i64 (cfP (p,d) (p',d')))∧w'=W':=fun W'=>strCmp p p' W'
 generalize cfP (p,d) (p',d')=r at hcon ⊢
 show Calls Tryz.prog 239 #[.agg #[.string ⟨p.toArray⟩,.string ⟨d.toArray⟩],.agg #[.string ⟨p'.toArray⟩,.string ⟨d'.toArray⟩]] W _
 go_enter Tryz.func239,Tryz.ntmps239
 go_wp2_with (go_at_call 97; refine (hcon _).mono ?_; rintro e w' ⟨rfl,rfl⟩)
 go_ret
 exact ⟨rfl,0,_,by rw [alloc_eq_grow,alloc_eq_grow,grow_grow]; rfl⟩
theorem aggFile:∀ w,(isAgg 94).run Tryz.prog w=.ok true w:=run_isAgg (by kernel_rfl)
theorem sizeFile:∀ w,(Go.sizeOf 94).run Tryz.prog w=.ok 2 w:=run_sizeOf' (by kernel_rfl)
set_option maxHeartbeats 2000000 in
set_option maxRecDepth 100000 in
theorem sortF_W(g:Nat)(hg:∀ args w,(callFunc g args).run Tryz.prog w=.ok (.enter g args) w)(hc:∀ x y W,Calls Tryz.prog g #[.agg (encPD x).toArray,.agg (encPD y).toArray] W fun e w'=>e=.returned (.int .i64 (cfP x y))∧∃ q os',w'=Go.Sort.grow (W.drewN q) os')
  (blk off cap:Nat) (d:Array PD) (w:World) (hH:HoldsK encPD 2 w blk off d) (hblk:blk<w.heap.size) (hsz:d.size<4611686018427387904) :
  Calls Tryz.prog 238 #[.slice (some ⟨blk,off,none⟩) d.size cap,.func (.func g) #[] #[]] w fun e w'=>e=.returned (.tuple #[])∧∃ d' n os,PermIn 0 d.size d d'∧SortedIn (ltOf cfP) 0 d.size d'∧w'=sortWorldK encPD 2 w blk off n d' os:=by
 have mixed:=mixed46
 have hlim:Lib.bitLen d.size<4611686018427387904:=Nat.lt_of_le_of_lt (Lib.bitLen_le d.size 62 (by omega) (by omega)) (by omega)
 have h1:∀ x,∀ v∈encPD x,v.oneCell'=true:=fun x v hv=>by simp [encPD]at hv; rcases hv with rfl | rfl <;> rfl
 have hs:=pdq_sorts (ltOf cfP) swoP d 0 d.size (Lib.bitLen d.size) true true (Nat.zero_le _) (Nat.le_refl _) (Or.inl rfl)
 have hp:Calls Tryz.prog 319 #[.slice (some ⟨blk,off,none⟩) d.size cap,.int .i64 0,.int .i64 (d.size:Int),.int .i64 (Lib.bitLen d.size:Nat),.func (.func g) #[] #[]] w fun e w'=>e=.returned (.tuple #[])∧SWK encPD 2 w blk off (pdq (ltOf cfP) d 0 d.size (Lib.bitLen d.size) true true) w':=
  AnyQ.pdqsortCmpFunc_all Tryz.pdqFile 2 aggFile sizeFile encPD cfP g #[] swoP blk off cap d w hg (fun _ _ _ _ x y=>hc x y _) ⟨fun _=>rfl,h1,hH,hblk⟩ (d.size+1) 0 d.size (Lib.bitLen d.size) d w (by omega) rfl (SWK.start hH) (Nat.zero_le _) (Nat.le_refl _) hsz hlim (Or.inl rfl)
 have hl:Calls Tryz.prog 73 #[.int .u64 (d.size:Int)] w fun e w'=>e=.returned (.int .i64 (Lib.bitLen d.size:Nat))∧w'=w:=by
  have h:=Tryz.bits_Len (d.size:Int) w (by omega) (by omega);rwa [Int.toNat_natCast]at h
 have wr:IntKind.u64.wrap (d.size:Int)=d.size:=by simp [IntKind.wrap,IntKind.bits,IntKind.signed]; omega
 generalize pdq (ltOf cfP) d 0 d.size (Lib.bitLen d.size) true true=d' at hp hs
 generalize Lib.bitLen d.size=bl at hp hl
 generalize d.size=n at hp hl wr hs ⊢
 clear hH hc h1 hlim hsz
 go_enter Tryz.func238,Tryz.ntmps238
 go_wp2_with (first | (go_at_call 73; refine hl.mono ?_; rintro e w' ⟨rfl,rfl⟩) | (go_at_call 319; refine hp.mono ?_; rintro e w' ⟨rfl,n,os,rfl⟩))
 go_end0
 exact ⟨rfl,d',n,os,hs.1,hs.2,rfl⟩
set_option maxHeartbeats 1000000 in
set_option maxRecDepth 100000 in
theorem sortF_N(fv:Value)(p:Option Addr)(cap:Nat)(w:World) :
  Calls Tryz.prog 238 #[.slice p 0 cap,fv] w fun e w'=>e=.returned (.tuple #[])∧w'=w:=by
 have mixed:=mixed46
 have hp:∀ lim,Calls Tryz.prog 319 #[.slice p 0 cap,.int .i64 0,.int .i64 0,.int .i64 lim,fv] w fun e w'=>e=.returned (.tuple #[])∧w'=w:=fun lim=>
  AnyF.pdqsortCmpFunc_none Tryz.pdqFile p cap lim fv w
 have hl:Calls Tryz.prog 73 #[.int .u64 0] w fun e w'=>e=.returned (.int .i64 (Lib.bitLen 0:Nat))∧w'=w:=Tryz.bits_Len 0 w (by omega) (by omega)
 go_enter Tryz.func238,Tryz.ntmps238
 go_wp2_with (first | (go_at_call 73; refine hl.mono ?_; rintro e w' ⟨rfl,rfl⟩) | (go_at_call 319; refine (hp _).mono ?_; rintro e w' ⟨rfl,rfl⟩))
 go_end0
 exact ⟨rfl,rfl⟩
theorem sortF_ok(gv:Gv):GenOK Tryz.prog gv 238 (F_SortPD [239]):=
 sortPD_gen (fun _ _ p cap w=>sortF_N _ p cap w) fun g hg blk off cap d w hH hblk hsz=>by
  obtain rfl:=List.mem_singleton.1 hg;exact sortF_W 239 (Go.Proofs.enters_of Tryz.func239 (by kernel_rfl) rfl) cmpc_239 blk off cap d w hH hblk hsz
end Go.Proofs.YtbfcbkjemlgnpaaGreatDoor
namespace Go.Proofs.YtbfcbkjemlgnpaaGreatDoor
open Go.RowKit
theorem infGrow237:∃ (i0:TypeInfo) (z:Value),Tryz.prog.info? 9=some i0∧i0.zero=some z∧i0.size=1∧i0.bytes=16∧z.cells.size=1:=
 ⟨(Tryz.prog.info? 9).getD default,(((Tryz.prog.info? 9).getD default).zero).getD (.bool false),by kernel_rfl,by kernel_rfl,by kernel_rfl,by kernel_rfl,by kernel_rfl⟩
theorem growG_237(gv:Gv):GenOK Tryz.prog gv 237 (F_GrowG 1):=by
 obtain ⟨i0,z,hi,hz,hs,hb,hzs⟩:=infGrow237
 refine grow_gen (e:=9) (fun n w h0 h1=>?_) fun w=>?_
 ·refine (Any8.slices_Grow_grow Tryz.grow237 i0 z hi hz (by omega) none 0 0 n [] w (Nat.le_refl _) (by omega) (by rw [hb]; omega) (by omega) (by simp) (fun _=>rfl) (fun a e=>by cases e)).mono fun o w' hk=>?_
  obtain ⟨rfl,rfl⟩:=hk;have hge:=grownCap_ge w (0+n) 0 9;have hle:=grownCap_le_maxLen w (0+n) 0 9 (by unfold maxLen; omega);refine ⟨_,_,rfl,heap_new _ _,?_,hle,below_da w _⟩
  have e25:Tryz.grow237_ren.t 25=9:=rfl;simp only [Array.size_append,size_zeroCells,hzs,e25,Nat.zero_add]at hge ⊢;simp;omega
 ·refine (Any8.slices_Grow_room Tryz.grow237 none 0 0 0 w (Nat.le_refl _) (by omega) (by omega) (by omega)).mono fun o w' hk=>?_
  obtain ⟨rfl,rfl⟩:=hk;exact ⟨rfl,rfl⟩
theorem infGrow206:∃ (i0:TypeInfo) (z:Value),Tryz.prog.info? 39=some i0∧i0.zero=some z∧i0.size=3∧i0.bytes=32∧z.cells.size=3:=
 ⟨(Tryz.prog.info? 39).getD default,(((Tryz.prog.info? 39).getD default).zero).getD (.bool false),by kernel_rfl,by kernel_rfl,by kernel_rfl,by kernel_rfl,by kernel_rfl⟩
theorem growG_206(gv:Gv):GenOK Tryz.prog gv 206 (F_GrowG 3):=by
 obtain ⟨i0,z,hi,hz,hs,hb,hzs⟩:=infGrow206
 refine grow_gen (e:=39) (fun n w h0 h1=>?_) fun w=>?_
 ·refine (Any8.slices_Grow_grow Tryz.grow206 i0 z hi hz (by omega) none 0 0 n [] w (Nat.le_refl _) (by omega) (by rw [hb]; omega) (by omega) (by simp) (fun _=>rfl) (fun a e=>by cases e)).mono fun o w' hk=>?_
  obtain ⟨rfl,rfl⟩:=hk;have hge:=grownCap_ge w (0+n) 0 39;have hle:=grownCap_le_maxLen w (0+n) 0 39 (by unfold maxLen; omega);refine ⟨_,_,rfl,heap_new _ _,?_,hle,below_da w _⟩
  have e25:Tryz.grow206_ren.t 25=39:=rfl;simp only [Array.size_append,size_zeroCells,hzs,e25,Nat.zero_add]at hge ⊢;simp;omega
 ·refine (Any8.slices_Grow_room Tryz.grow206 none 0 0 0 w (Nat.le_refl _) (by omega) (by omega) (by omega)).mono fun o w' hk=>?_
  obtain ⟨rfl,rfl⟩:=hk;exact ⟨rfl,rfl⟩
theorem infGrow178:∃ (i0:TypeInfo) (z:Value),Tryz.prog.info? 60=some i0∧i0.zero=some z∧i0.size=4∧i0.bytes=48∧z.cells.size=4:=
 ⟨(Tryz.prog.info? 60).getD default,(((Tryz.prog.info? 60).getD default).zero).getD (.bool false),by kernel_rfl,by kernel_rfl,by kernel_rfl,by kernel_rfl,by kernel_rfl⟩
theorem growG_178(gv:Gv):GenOK Tryz.prog gv 178 (F_GrowG 4):=by
 obtain ⟨i0,z,hi,hz,hs,hb,hzs⟩:=infGrow178
 refine grow_gen (e:=60) (fun n w h0 h1=>?_) fun w=>?_
 ·refine (Any8.slices_Grow_grow Tryz.grow178 i0 z hi hz (by omega) none 0 0 n [] w (Nat.le_refl _) (by omega) (by rw [hb]; omega) (by omega) (by simp) (fun _=>rfl) (fun a e=>by cases e)).mono fun o w' hk=>?_
  obtain ⟨rfl,rfl⟩:=hk;have hge:=grownCap_ge w (0+n) 0 60;have hle:=grownCap_le_maxLen w (0+n) 0 60 (by unfold maxLen; omega);refine ⟨_,_,rfl,heap_new _ _,?_,hle,below_da w _⟩
  have e25:Tryz.grow178_ren.t 25=60:=rfl;simp only [Array.size_append,size_zeroCells,hzs,e25,Nat.zero_add]at hge ⊢;simp;omega
 ·refine (Any8.slices_Grow_room Tryz.grow178 none 0 0 0 w (Nat.le_refl _) (by omega) (by omega) (by omega)).mono fun o w' hk=>?_
  obtain ⟨rfl,rfl⟩:=hk;exact ⟨rfl,rfl⟩
end Go.Proofs.YtbfcbkjemlgnpaaGreatDoor
