/- slices.Clone at this program's instances. slices.SortFunc of files by their paths at this program. slices.Grow at this program's instances: the shelf's contract,turned. -/
import Derived.Test.YtpefhfiehfkocaaGreatDoorChecked
import Derived.Test.YtpefhfiehfkocaaGreatDoorRmJ
import Derived.Shelf.RegionOpenPlain
import Derived.WalkKit
import Derived.Deep.LoopGhost
import Derived.Lib.Walk
import Derived.Lib.SliceRun
import Derived.KernelRfl
import Derived.Test.YtpefhfiehfkocaaGreatDoorShelf
import Derived.Shelf.SlSortCmp.NoneTotal
import Derived.Shelf.Spec.SlicesGrow
namespace Go.Proofs.YtpefhfiehfkocaaGreatDoor
open Go.RowKit Go.Lib
theorem mixed46:Tryz.prog.follows .mixedOrders=true:=by kernel_rfl
theorem in48:Tryz.prog.underlying 48=some (.slice 9):=by kernel_rfl
theorem inf9:∃ (i0:TypeInfo) (z:Value),Tryz.prog.info? 9=some i0∧i0.zero=some z∧i0.size=1∧i0.bytes=16∧z.cells.size=1:=
 ⟨(Tryz.prog.info? 9).getD default,(((Tryz.prog.info? 9).getD default).zero).getD (.bool false),by kernel_rfl,by kernel_rfl,by kernel_rfl,by kernel_rfl,by kernel_rfl⟩
theorem cmp48(w:World)(a:Option Addr)(n c n' c':Nat):(binOp .eql 48 (.slice a n c) (.slice none n' c')).run Tryz.prog w=.ok (.bool a.isNone) w:=Lib.run_eql_slice_nil w _ _ a n c n' c' in48
set_option maxHeartbeats 2000000 in
set_option maxRecDepth 100000 in
theorem clone_36(a:Addr)(n c:Nat)(news:List Value)(w:World)(hl:news.length=n*1)(hn:n≤maxLen)(hbig:n*16≤140737488355328)(hc:∀ j u,news[j]?=some u→w.cell? (a.add j)=some u)(h1:∀ u∈news,u.oneCell'=true) :
  Calls Tryz.prog 36 #[.slice (some a) n c] w fun o w'=>(∃ v',o=.returned v'∧w'.ownsRow w.heap.size 9 1 v' n news)∧Below w.heap.size w w':=by
 obtain ⟨i0,z,hi,hz0,hz1,hz2,hzs⟩:=inf9
 have mixed:=mixed46
 have q:=cmp48
 have u:∀ w,Sem.run Tryz.prog (underlying 48) w=.ok (TypeDesc.slice 9) w:=run_underlying in48
 have A:Aside (∀ j u,news[j]?=some u→w.cell? (a.add j)=some u):=hc
 clear hc
 go_enter Tryz.func36,Tryz.ntmps36
 go_wp2_with (at_builtin; refine wpList_append_own _ rfl _ _ 48 rfl w.heap.size 9 i0 z 1 16 in48 hi hz0 hz1 hz2 hzs (by decide) _ _ _ rfl (World.ownsRow_made w #[] 0 (Nat.le_refl _) (Nat.zero_le _) (by simp)) a n c news rfl ?q1 ?q2 ?q3 ?q4 ?q5 ?q6 ?_)
 case q1=>exact hl
 case q2=>intro j u hj; exact Lib.cell?_alloc_some _ (A.out j u hj)
 case q3=>exact h1
 case q4=>rw [Nat.zero_add]; exact hn
 case q5=>rw [Nat.zero_add]; exact hbig
 case q6=>simp
 intro v' w1 hown hgrow hnil
 go_wp2
 go_ret
 refine ⟨⟨v',rfl,by simpa using hown⟩,?_⟩
 exact ((Below.refl _ w).alloc (Nat.le_refl _) _).grown hgrow (by simp) (by intro k hk; simp [Value.ownBlock]at hk; omega)
set_option maxHeartbeats 2000000 in
set_option maxRecDepth 100000 in
theorem clonenil_36(n c:Nat)(w:World):Calls Tryz.prog 36 #[.slice none n c] w fun o w'=>o=.returned (.slice none 0 0)∧w'=w:=by
 have mixed:=mixed46
 have q:=cmp48
 go_enter Tryz.func36,Tryz.ntmps36
 go_wp2
 go_ret
 exact ⟨rfl,rfl⟩
theorem cloneG_36(gv:Gv):GenOK Tryz.prog gv 36 (F_CloneG 1 16):=clone_gen clone_36 clonenil_36
theorem in54:Tryz.prog.underlying 54=some (.slice 66):=by kernel_rfl
theorem inf66:∃ (i0:TypeInfo) (z:Value),Tryz.prog.info? 66=some i0∧i0.zero=some z∧i0.size=2∧i0.bytes=32∧z.cells.size=2:=
 ⟨(Tryz.prog.info? 66).getD default,(((Tryz.prog.info? 66).getD default).zero).getD (.bool false),by kernel_rfl,by kernel_rfl,by kernel_rfl,by kernel_rfl,by kernel_rfl⟩
theorem cmp54(w:World)(a:Option Addr)(n c n' c':Nat):(binOp .eql 54 (.slice a n c) (.slice none n' c')).run Tryz.prog w=.ok (.bool a.isNone) w:=Lib.run_eql_slice_nil w _ _ a n c n' c' in54
set_option maxHeartbeats 2000000 in
set_option maxRecDepth 100000 in
theorem clone_66(a:Addr)(n c:Nat)(news:List Value)(w:World)(hl:news.length=n*2)(hn:n≤maxLen)(hbig:n*32≤140737488355328)(hc:∀ j u,news[j]?=some u→w.cell? (a.add j)=some u)(h1:∀ u∈news,u.oneCell'=true) :
  Calls Tryz.prog 66 #[.slice (some a) n c] w fun o w'=>(∃ v',o=.returned v'∧w'.ownsRow w.heap.size 66 2 v' n news)∧Below w.heap.size w w':=by
 obtain ⟨i0,z,hi,hz0,hz1,hz2,hzs⟩:=inf66
 have mixed:=mixed46
 have q:=cmp54
 have u:∀ w,Sem.run Tryz.prog (underlying 54) w=.ok (TypeDesc.slice 66) w:=run_underlying in54
 have A:Aside (∀ j u,news[j]?=some u→w.cell? (a.add j)=some u):=hc
 clear hc
 go_enter Tryz.func66,Tryz.ntmps66
 go_wp2_with (at_builtin; refine wpList_append_own _ rfl _ _ 54 rfl w.heap.size 66 i0 z 2 32 in54 hi hz0 hz1 hz2 hzs (by decide) _ _ _ rfl (World.ownsRow_made w #[] 0 (Nat.le_refl _) (Nat.zero_le _) (by simp)) a n c news rfl ?q1 ?q2 ?q3 ?q4 ?q5 ?q6 ?_)
 case q1=>exact hl
 case q2=>intro j u hj; exact Lib.cell?_alloc_some _ (A.out j u hj)
 case q3=>exact h1
 case q4=>rw [Nat.zero_add]; exact hn
 case q5=>rw [Nat.zero_add]; exact hbig
 case q6=>simp
 intro v' w1 hown hgrow hnil
 go_wp2
 go_ret
 refine ⟨⟨v',rfl,by simpa using hown⟩,?_⟩
 exact ((Below.refl _ w).alloc (Nat.le_refl _) _).grown hgrow (by simp) (by intro k hk; simp [Value.ownBlock]at hk; omega)
set_option maxHeartbeats 2000000 in
set_option maxRecDepth 100000 in
theorem clonenil_66(n c:Nat)(w:World):Calls Tryz.prog 66 #[.slice none n c] w fun o w'=>o=.returned (.slice none 0 0)∧w'=w:=by
 have mixed:=mixed46
 have q:=cmp54
 go_enter Tryz.func66,Tryz.ntmps66
 go_wp2
 go_ret
 exact ⟨rfl,rfl⟩
theorem cloneG_66(gv:Gv):GenOK Tryz.prog gv 66 (F_CloneG 2 32):=clone_gen clone_66 clonenil_66
theorem in151:Tryz.prog.underlying 151=some (.slice 157):=by kernel_rfl
theorem inf157:∃ (i0:TypeInfo) (z:Value),Tryz.prog.info? 157=some i0∧i0.zero=some z∧i0.size=2∧i0.bytes=32∧z.cells.size=2:=
 ⟨(Tryz.prog.info? 157).getD default,(((Tryz.prog.info? 157).getD default).zero).getD (.bool false),by kernel_rfl,by kernel_rfl,by kernel_rfl,by kernel_rfl,by kernel_rfl⟩
theorem cmp151(w:World)(a:Option Addr)(n c n' c':Nat):(binOp .eql 151 (.slice a n c) (.slice none n' c')).run Tryz.prog w=.ok (.bool a.isNone) w:=Lib.run_eql_slice_nil w _ _ a n c n' c' in151
set_option maxHeartbeats 2000000 in
set_option maxRecDepth 100000 in
theorem clone_76(a:Addr)(n c:Nat)(news:List Value)(w:World)(hl:news.length=n*2)(hn:n≤maxLen)(hbig:n*32≤140737488355328)(hc:∀ j u,news[j]?=some u→w.cell? (a.add j)=some u)(h1:∀ u∈news,u.oneCell'=true) :
  Calls Tryz.prog 76 #[.slice (some a) n c] w fun o w'=>(∃ v',o=.returned v'∧w'.ownsRow w.heap.size 157 2 v' n news)∧Below w.heap.size w w':=by
 obtain ⟨i0,z,hi,hz0,hz1,hz2,hzs⟩:=inf157
 have mixed:=mixed46
 have q:=cmp151
 have u:∀ w,Sem.run Tryz.prog (underlying 151) w=.ok (TypeDesc.slice 157) w:=run_underlying in151
 have A:Aside (∀ j u,news[j]?=some u→w.cell? (a.add j)=some u):=hc
 clear hc
 go_enter Tryz.func76,Tryz.ntmps76
 go_wp2_with (at_builtin; refine wpList_append_own _ rfl _ _ 151 rfl w.heap.size 157 i0 z 2 32 in151 hi hz0 hz1 hz2 hzs (by decide) _ _ _ rfl (World.ownsRow_made w #[] 0 (Nat.le_refl _) (Nat.zero_le _) (by simp)) a n c news rfl ?q1 ?q2 ?q3 ?q4 ?q5 ?q6 ?_)
 case q1=>exact hl
 case q2=>intro j u hj; exact Lib.cell?_alloc_some _ (A.out j u hj)
 case q3=>exact h1
 case q4=>rw [Nat.zero_add]; exact hn
 case q5=>rw [Nat.zero_add]; exact hbig
 case q6=>simp
 intro v' w1 hown hgrow hnil
 go_wp2
 go_ret
 refine ⟨⟨v',rfl,by simpa using hown⟩,?_⟩
 exact ((Below.refl _ w).alloc (Nat.le_refl _) _).grown hgrow (by simp) (by intro k hk; simp [Value.ownBlock]at hk; omega)
set_option maxHeartbeats 2000000 in
set_option maxRecDepth 100000 in
theorem clonenil_76(n c:Nat)(w:World):Calls Tryz.prog 76 #[.slice none n c] w fun o w'=>o=.returned (.slice none 0 0)∧w'=w:=by
 have mixed:=mixed46
 have q:=cmp151
 go_enter Tryz.func76,Tryz.ntmps76
 go_wp2
 go_ret
 exact ⟨rfl,rfl⟩
theorem cloneG_76(gv:Gv):GenOK Tryz.prog gv 76 (F_CloneG 2 32):=clone_gen clone_76 clonenil_76
theorem in71:Tryz.prog.underlying 71=some (.slice 159):=by kernel_rfl
theorem inf159:∃ (i0:TypeInfo) (z:Value),Tryz.prog.info? 159=some i0∧i0.zero=some z∧i0.size=6∧i0.bytes=80∧z.cells.size=6:=
 ⟨(Tryz.prog.info? 159).getD default,(((Tryz.prog.info? 159).getD default).zero).getD (.bool false),by kernel_rfl,by kernel_rfl,by kernel_rfl,by kernel_rfl,by kernel_rfl⟩
theorem cmp71(w:World)(a:Option Addr)(n c n' c':Nat):(binOp .eql 71 (.slice a n c) (.slice none n' c')).run Tryz.prog w=.ok (.bool a.isNone) w:=Lib.run_eql_slice_nil w _ _ a n c n' c' in71
set_option maxHeartbeats 2000000 in
set_option maxRecDepth 100000 in
theorem clone_201(a:Addr)(n c:Nat)(news:List Value)(w:World)(hl:news.length=n*6)(hn:n≤maxLen)(hbig:n*80≤140737488355328)(hc:∀ j u,news[j]?=some u→w.cell? (a.add j)=some u)(h1:∀ u∈news,u.oneCell'=true) :
  Calls Tryz.prog 201 #[.slice (some a) n c] w fun o w'=>(∃ v',o=.returned v'∧w'.ownsRow w.heap.size 159 6 v' n news)∧Below w.heap.size w w':=by
 obtain ⟨i0,z,hi,hz0,hz1,hz2,hzs⟩:=inf159
 have mixed:=mixed46
 have q:=cmp71
 have u:∀ w,Sem.run Tryz.prog (underlying 71) w=.ok (TypeDesc.slice 159) w:=run_underlying in71
 have A:Aside (∀ j u,news[j]?=some u→w.cell? (a.add j)=some u):=hc
 clear hc
 go_enter Tryz.func201,Tryz.ntmps201
 go_wp2_with (at_builtin; refine wpList_append_own _ rfl _ _ 71 rfl w.heap.size 159 i0 z 6 80 in71 hi hz0 hz1 hz2 hzs (by decide) _ _ _ rfl (World.ownsRow_made w #[] 0 (Nat.le_refl _) (Nat.zero_le _) (by simp)) a n c news rfl ?q1 ?q2 ?q3 ?q4 ?q5 ?q6 ?_)
 case q1=>exact hl
 case q2=>intro j u hj; exact Lib.cell?_alloc_some _ (A.out j u hj)
 case q3=>exact h1
 case q4=>rw [Nat.zero_add]; exact hn
 case q5=>rw [Nat.zero_add]; exact hbig
 case q6=>simp
 intro v' w1 hown hgrow hnil
 go_wp2
 go_ret
 refine ⟨⟨v',rfl,by simpa using hown⟩,?_⟩
 exact ((Below.refl _ w).alloc (Nat.le_refl _) _).grown hgrow (by simp) (by intro k hk; simp [Value.ownBlock]at hk; omega)
set_option maxHeartbeats 2000000 in
set_option maxRecDepth 100000 in
theorem clonenil_201(n c:Nat)(w:World):Calls Tryz.prog 201 #[.slice none n c] w fun o w'=>o=.returned (.slice none 0 0)∧w'=w:=by
 have mixed:=mixed46
 have q:=cmp71
 go_enter Tryz.func201,Tryz.ntmps201
 go_wp2
 go_ret
 exact ⟨rfl,rfl⟩
theorem cloneG_201(gv:Gv):GenOK Tryz.prog gv 201 (F_CloneG 6 80):=clone_gen clone_201 clonenil_201
theorem in45:Tryz.prog.underlying 45=some (.slice 47):=by kernel_rfl
theorem inf47:∃ (i0:TypeInfo) (z:Value),Tryz.prog.info? 47=some i0∧i0.zero=some z∧i0.size=4∧i0.bytes=64∧z.cells.size=4:=
 ⟨(Tryz.prog.info? 47).getD default,(((Tryz.prog.info? 47).getD default).zero).getD (.bool false),by kernel_rfl,by kernel_rfl,by kernel_rfl,by kernel_rfl,by kernel_rfl⟩
theorem cmp45(w:World)(a:Option Addr)(n c n' c':Nat):(binOp .eql 45 (.slice a n c) (.slice none n' c')).run Tryz.prog w=.ok (.bool a.isNone) w:=Lib.run_eql_slice_nil w _ _ a n c n' c' in45
set_option maxHeartbeats 2000000 in
set_option maxRecDepth 100000 in
theorem clone_64(a:Addr)(n c:Nat)(news:List Value)(w:World)(hl:news.length=n*4)(hn:n≤maxLen)(hbig:n*64≤140737488355328)(hc:∀ j u,news[j]?=some u→w.cell? (a.add j)=some u)(h1:∀ u∈news,u.oneCell'=true) :
  Calls Tryz.prog 64 #[.slice (some a) n c] w fun o w'=>(∃ v',o=.returned v'∧w'.ownsRow w.heap.size 47 4 v' n news)∧Below w.heap.size w w':=by
 obtain ⟨i0,z,hi,hz0,hz1,hz2,hzs⟩:=inf47
 have mixed:=mixed46
 have q:=cmp45
 have u:∀ w,Sem.run Tryz.prog (underlying 45) w=.ok (TypeDesc.slice 47) w:=run_underlying in45
 have A:Aside (∀ j u,news[j]?=some u→w.cell? (a.add j)=some u):=hc
 clear hc
 go_enter Tryz.func64,Tryz.ntmps64
 go_wp2_with (at_builtin; refine wpList_append_own _ rfl _ _ 45 rfl w.heap.size 47 i0 z 4 64 in45 hi hz0 hz1 hz2 hzs (by decide) _ _ _ rfl (World.ownsRow_made w #[] 0 (Nat.le_refl _) (Nat.zero_le _) (by simp)) a n c news rfl ?q1 ?q2 ?q3 ?q4 ?q5 ?q6 ?_)
 case q1=>exact hl
 case q2=>intro j u hj; exact Lib.cell?_alloc_some _ (A.out j u hj)
 case q3=>exact h1
 case q4=>rw [Nat.zero_add]; exact hn
 case q5=>rw [Nat.zero_add]; exact hbig
 case q6=>simp
 intro v' w1 hown hgrow hnil
 go_wp2
 go_ret
 refine ⟨⟨v',rfl,by simpa using hown⟩,?_⟩
 exact ((Below.refl _ w).alloc (Nat.le_refl _) _).grown hgrow (by simp) (by intro k hk; simp [Value.ownBlock]at hk; omega)
set_option maxHeartbeats 2000000 in
set_option maxRecDepth 100000 in
theorem clonenil_64(n c:Nat)(w:World):Calls Tryz.prog 64 #[.slice none n c] w fun o w'=>o=.returned (.slice none 0 0)∧w'=w:=by
 have mixed:=mixed46
 have q:=cmp45
 go_enter Tryz.func64,Tryz.ntmps64
 go_wp2
 go_ret
 exact ⟨rfl,rfl⟩
theorem cloneG_64(gv:Gv):GenOK Tryz.prog gv 64 (F_CloneG 4 64):=clone_gen clone_64 clonenil_64
end Go.Proofs.YtpefhfiehfkocaaGreatDoor
namespace Go.Proofs.YtpefhfiehfkocaaGreatDoor
open Go.RowKit Go.Lib Go.Sort Go.Shelf
theorem strCmp(a b:Bs)(w:World):Calls Tryz.prog 125 #[.string ⟨a.toArray⟩,.string ⟨b.toArray⟩] w fun e w'=>e=.returned (.int .i64 (Lib.compareBytes a b))∧w'=w:=by
 have h:Calls Tryz.prog 125 #[.string ⟨a.toArray⟩,.string ⟨b.toArray⟩] w fun e w'=>e=.returned (.int .i64 (Lib.compareBytes (ByteArray.mk a.toArray).data.toList (ByteArray.mk b.toArray).data.toList))∧w'=w:=Tryz.strings_Compare ⟨a.toArray⟩ ⟨b.toArray⟩ w
 simpa using h
set_option maxHeartbeats 1000000 in
set_option maxRecDepth 100000 in
theorem cmpc_124(x y:PD)(W:World):Calls Tryz.prog 124 #[.agg (encPD x).toArray,.agg (encPD y).toArray] W fun e w'=>e=.returned (.int .i64 (cfP x y))∧∃ q os',w'=Go.Sort.grow (W.drewN q) os':=by
 obtain ⟨p,d⟩:=x
 obtain ⟨p',d'⟩:=y
 have hcon:∀ W',Calls Tryz.prog 125 #[.string ⟨p.toArray⟩,.string ⟨p'.toArray⟩] W' fun e w'=>e=.returned (.int .i64 (cfP (p,d) (p',d')))∧w'=W':=fun W'=>strCmp p p' W'
 generalize cfP (p,d) (p',d')=r at hcon ⊢
 show Calls Tryz.prog 124 #[.agg #[.string ⟨p.toArray⟩,.string ⟨d.toArray⟩],.agg #[.string ⟨p'.toArray⟩,.string ⟨d'.toArray⟩]] W _
 go_enter Tryz.func124,Tryz.ntmps124
 go_wp2_with (go_at_call 125; refine (hcon _).mono ?_; rintro e w' ⟨rfl,rfl⟩)
 go_ret
 exact ⟨rfl,0,_,by rw [alloc_eq_grow,alloc_eq_grow,grow_grow]; rfl⟩
theorem aggFile:∀ w,(isAgg 66).run Tryz.prog w=.ok true w:=run_isAgg (by kernel_rfl)
theorem sizeFile:∀ w,(Go.sizeOf 66).run Tryz.prog w=.ok 2 w:=run_sizeOf' (by kernel_rfl)
set_option maxHeartbeats 2000000 in
set_option maxRecDepth 100000 in
theorem sortF_W(g:Nat)(hg:∀ args w,(callFunc g args).run Tryz.prog w=.ok (.enter g args) w)(hc:∀ x y W,Calls Tryz.prog g #[.agg (encPD x).toArray,.agg (encPD y).toArray] W fun e w'=>e=.returned (.int .i64 (cfP x y))∧∃ q os',w'=Go.Sort.grow (W.drewN q) os')
  (blk off cap:Nat) (d:Array PD) (w:World) (hH:HoldsK encPD 2 w blk off d) (hblk:blk<w.heap.size) (hsz:d.size<4611686018427387904) :
  Calls Tryz.prog 27 #[.slice (some ⟨blk,off,none⟩) d.size cap,.func (.func g) #[] #[]] w fun e w'=>e=.returned (.tuple #[])∧∃ d' n os,PermIn 0 d.size d d'∧SortedIn (ltOf cfP) 0 d.size d'∧w'=sortWorldK encPD 2 w blk off n d' os:=by
 have mixed:=mixed46
 have hlim:Lib.bitLen d.size<4611686018427387904:=Nat.lt_of_le_of_lt (Lib.bitLen_le d.size 62 (by omega) (by omega)) (by omega)
 have h1:∀ x,∀ v∈encPD x,v.oneCell'=true:=fun x v hv=>by simp [encPD]at hv; rcases hv with rfl | rfl <;> rfl
 have hs:=pdq_sorts (ltOf cfP) swoP d 0 d.size (Lib.bitLen d.size) true true (Nat.zero_le _) (Nat.le_refl _) (Or.inl rfl)
 have hp:Calls Tryz.prog 56 #[.slice (some ⟨blk,off,none⟩) d.size cap,.int .i64 0,.int .i64 (d.size:Int),.int .i64 (Lib.bitLen d.size:Nat),.func (.func g) #[] #[]] w fun e w'=>e=.returned (.tuple #[])∧SWK encPD 2 w blk off (pdq (ltOf cfP) d 0 d.size (Lib.bitLen d.size) true true) w':=
  AnyQ.pdqsortCmpFunc_all Tryz.pdqFile 2 aggFile sizeFile encPD cfP g #[] swoP blk off cap d w hg (fun _ _ _ _ x y=>hc x y _) ⟨fun _=>rfl,h1,hH,hblk⟩ (d.size+1) 0 d.size (Lib.bitLen d.size) d w (by omega) rfl (SWK.start hH) (Nat.zero_le _) (Nat.le_refl _) hsz hlim (Or.inl rfl)
 have hl:Calls Tryz.prog 57 #[.int .u64 (d.size:Int)] w fun e w'=>e=.returned (.int .i64 (Lib.bitLen d.size:Nat))∧w'=w:=by
  have h:=Tryz.bits_Len (d.size:Int) w (by omega) (by omega);rwa [Int.toNat_natCast]at h
 have wr:IntKind.u64.wrap (d.size:Int)=d.size:=by simp [IntKind.wrap,IntKind.bits,IntKind.signed]; omega
 generalize pdq (ltOf cfP) d 0 d.size (Lib.bitLen d.size) true true=d' at hp hs
 generalize Lib.bitLen d.size=bl at hp hl
 generalize d.size=n at hp hl wr hs ⊢
 clear hH hc h1 hlim hsz
 go_enter Tryz.func27,Tryz.ntmps27
 go_wp2_with (first | (go_at_call 57; refine hl.mono ?_; rintro e w' ⟨rfl,rfl⟩) | (go_at_call 56; refine hp.mono ?_; rintro e w' ⟨rfl,n,os,rfl⟩))
 go_end0
 exact ⟨rfl,d',n,os,hs.1,hs.2,rfl⟩
set_option maxHeartbeats 1000000 in
set_option maxRecDepth 100000 in
theorem sortF_N(fv:Value)(p:Option Addr)(cap:Nat)(w:World) :
  Calls Tryz.prog 27 #[.slice p 0 cap,fv] w fun e w'=>e=.returned (.tuple #[])∧w'=w:=by
 have mixed:=mixed46
 have hp:∀ lim,Calls Tryz.prog 56 #[.slice p 0 cap,.int .i64 0,.int .i64 0,.int .i64 lim,fv] w fun e w'=>e=.returned (.tuple #[])∧w'=w:=fun lim=>
  AnyF.pdqsortCmpFunc_none Tryz.pdqFile p cap lim fv w
 have hl:Calls Tryz.prog 57 #[.int .u64 0] w fun e w'=>e=.returned (.int .i64 (Lib.bitLen 0:Nat))∧w'=w:=Tryz.bits_Len 0 w (by omega) (by omega)
 go_enter Tryz.func27,Tryz.ntmps27
 go_wp2_with (first | (go_at_call 57; refine hl.mono ?_; rintro e w' ⟨rfl,rfl⟩) | (go_at_call 56; refine (hp _).mono ?_; rintro e w' ⟨rfl,rfl⟩))
 go_end0
 exact ⟨rfl,rfl⟩
theorem sortF_ok(gv:Gv):GenOK Tryz.prog gv 27 (F_SortPD [124]):=
 sortPD_gen (fun _ _ p cap w=>sortF_N _ p cap w) fun g hg blk off cap d w hH hblk hsz=>by
  obtain rfl:=List.mem_singleton.1 hg;exact sortF_W 124 (Go.Proofs.enters_of Tryz.func124 (by kernel_rfl) rfl) cmpc_124 blk off cap d w hH hblk hsz
end Go.Proofs.YtpefhfiehfkocaaGreatDoor
namespace Go.Proofs.YtpefhfiehfkocaaGreatDoor
open Go.RowKit
theorem infGrow123:∃ (i0:TypeInfo) (z:Value),Tryz.prog.info? 9=some i0∧i0.zero=some z∧i0.size=1∧i0.bytes=16∧z.cells.size=1:=
 ⟨(Tryz.prog.info? 9).getD default,(((Tryz.prog.info? 9).getD default).zero).getD (.bool false),by kernel_rfl,by kernel_rfl,by kernel_rfl,by kernel_rfl,by kernel_rfl⟩
theorem growG_123(gv:Gv):GenOK Tryz.prog gv 123 (F_GrowG 1):=by
 obtain ⟨i0,z,hi,hz,hs,hb,hzs⟩:=infGrow123
 refine grow_gen (e:=9) (fun n w h0 h1=>?_) fun w=>?_
 ·refine (Any8.slices_Grow_grow Tryz.grow123 i0 z hi hz (by omega) none 0 0 n [] w (Nat.le_refl _) (by omega) (by rw [hb]; omega) (by omega) (by simp) (fun _=>rfl) (fun a e=>by cases e)).mono fun o w' hk=>?_
  obtain ⟨rfl,rfl⟩:=hk;have hge:=grownCap_ge w (0+n) 0 9;have hle:=grownCap_le_maxLen w (0+n) 0 9 (by unfold maxLen; omega);refine ⟨_,_,rfl,heap_new _ _,?_,hle,below_da w _⟩
  have e25:Tryz.grow123_ren.t 25=9:=rfl;simp only [Array.size_append,size_zeroCells,hzs,e25,Nat.zero_add]at hge ⊢;simp;omega
 ·refine (Any8.slices_Grow_room Tryz.grow123 none 0 0 0 w (Nat.le_refl _) (by omega) (by omega) (by omega)).mono fun o w' hk=>?_
  obtain ⟨rfl,rfl⟩:=hk;exact ⟨rfl,rfl⟩
theorem infGrow396:∃ (i0:TypeInfo) (z:Value),Tryz.prog.info? 58=some i0∧i0.zero=some z∧i0.size=3∧i0.bytes=32∧z.cells.size=3:=
 ⟨(Tryz.prog.info? 58).getD default,(((Tryz.prog.info? 58).getD default).zero).getD (.bool false),by kernel_rfl,by kernel_rfl,by kernel_rfl,by kernel_rfl,by kernel_rfl⟩
theorem growG_396(gv:Gv):GenOK Tryz.prog gv 396 (F_GrowG 3):=by
 obtain ⟨i0,z,hi,hz,hs,hb,hzs⟩:=infGrow396
 refine grow_gen (e:=58) (fun n w h0 h1=>?_) fun w=>?_
 ·refine (Any8.slices_Grow_grow Tryz.grow396 i0 z hi hz (by omega) none 0 0 n [] w (Nat.le_refl _) (by omega) (by rw [hb]; omega) (by omega) (by simp) (fun _=>rfl) (fun a e=>by cases e)).mono fun o w' hk=>?_
  obtain ⟨rfl,rfl⟩:=hk;have hge:=grownCap_ge w (0+n) 0 58;have hle:=grownCap_le_maxLen w (0+n) 0 58 (by unfold maxLen; omega);refine ⟨_,_,rfl,heap_new _ _,?_,hle,below_da w _⟩
  have e25:Tryz.grow396_ren.t 25=58:=rfl;simp only [Array.size_append,size_zeroCells,hzs,e25,Nat.zero_add]at hge ⊢;simp;omega
 ·refine (Any8.slices_Grow_room Tryz.grow396 none 0 0 0 w (Nat.le_refl _) (by omega) (by omega) (by omega)).mono fun o w' hk=>?_
  obtain ⟨rfl,rfl⟩:=hk;exact ⟨rfl,rfl⟩
end Go.Proofs.YtpefhfiehfkocaaGreatDoor
