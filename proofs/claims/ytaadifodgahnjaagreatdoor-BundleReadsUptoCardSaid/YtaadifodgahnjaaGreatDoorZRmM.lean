/- strings.Builder's copy check at a builder that lies at the head of a struct of two cells: it marks the builder by its own address. slices.Clone at this program's instances. slices.DeleteFunc of files  -/
import Derived.Test.YtaadifodgahnjaaGreatDoorChecked
import Derived.Test.YtaadifodgahnjaaGreatDoorZRmJ
import Derived.Lib.Builder
import Derived.WalkKit
import Derived.Laws.Externs
import Derived.KernelRfl
import Derived.Shelf.RegionOpenPlain
import Derived.Deep.LoopGhost
import Derived.Lib.Walk
import Derived.Lib.SliceRun
namespace Go.Proofs.YtaadifodgahnjaaGreatDoor
open Go.RowKit
theorem in334 : Tryz.prog.underlying 334 = some (.pointer 336) := by kernel_rfl
theorem in515 : Tryz.prog.underlying 515 = some .unsafePointer := by kernel_rfl
theorem size336 : ∃ j,Tryz.prog.info? 336 = some j ∧ j.size = 2 := ⟨_,(by kernel_rfl : Tryz.prog.info? 336 = some ((Tryz.prog.info? 336).getD default)),by kernel_rfl⟩
set_option maxHeartbeats 1000000 in
set_option maxRecDepth 100000 in
theorem copyCheck_in (b : Nat) (τ : TypeId) (w : World) (h0 : w.cell? ⟨b,0,none⟩ = some (.pointer none)) (hsh : w.shape? b = some (τ,2)) (hfz : w.frozen? ⟨b,0,none⟩ = false) (hl : liesAt Tryz.prog Tryz.prog.depth τ (2 / Tryz.prog.cellsOf τ) 0 336 1 = true) :
  Calls Tryz.prog 310 #[.pointer (some ⟨b,0,none⟩)] w fun e w' => e = .returned (.tuple #[]) ∧ w' = w.setCell ⟨b,0,none⟩ (.pointer (some ⟨b,0,none⟩)) := by
 obtain ⟨j,hj,hjs⟩ := size336
 go_enter Tryz.func310,Tryz.ntmps310
 go_wp2
 rw [Lib.run_to_unsafe w ⟨b,0,none⟩ in334 in515 hj (by rw [hjs]; decide) hsh (Nat.zero_lt_succ 1)]
 simp only [Result.andThen]
 rw [Oper.upon_value]
 go_wp2
 rw [run_callFunc_extern Tryz.func363 (by kernel_rfl) (by kernel_rfl) (by kernel_rfl) (e := Extern.AbiNoEscape.same) (by kernel_rfl)]
 rw [Lib.run_noEscape]
 simp only [Result.andThen]
 rw [Oper.upon_value]
 go_wp2
 rw [Lib.run_from_unsafe w ⟨b,0,none⟩ in515 in334 hj hsh hl]
 simp only [Result.andThen]
 rw [Oper.upon_value]
 go_wp2
 go_end0
 exact ⟨rfl,rfl⟩
set_option maxHeartbeats 1000000 in
set_option maxRecDepth 100000 in
theorem copyCheck_old (b : Nat) (w : World) (h0 : w.cell? ⟨b,0,none⟩ = some (.pointer (some ⟨b,0,none⟩))) :
  Calls Tryz.prog 310 #[.pointer (some ⟨b,0,none⟩)] w fun e w' => e = .returned (.tuple #[]) ∧ w' = w := by
 obtain ⟨j,hj,hjs⟩ := size336
 go_enter Tryz.func310,Tryz.ntmps310
 go_wp2
 rw [Lib.run_neq_ptr_same w _ in334 hj]
 go_wp2
 go_end0
 exact ⟨rfl,rfl⟩
theorem lies336 : liesAt Tryz.prog Tryz.prog.depth 336 (2 / Tryz.prog.cellsOf 336) 0 336 1 = true := by kernel_rfl
theorem lies338 : liesAt Tryz.prog Tryz.prog.depth 338 (2 / Tryz.prog.cellsOf 338) 0 336 1 = true := by kernel_rfl
theorem copyC_310 (gv : Gv) : GenOK Tryz.prog gv 310 (F_copyC [336,338]) :=
 copyC_gen (fun T hT b w h0 hsh hfz => copyCheck_in b T w h0 hsh hfz (by
  rcases List.mem_cons.1 hT with rfl | hT
  ·exact lies336
  ·rw [List.mem_singleton.1 hT]; exact lies338)) (fun b w h0 => copyCheck_old b w h0)
end Go.Proofs.YtaadifodgahnjaaGreatDoor
namespace Go.Proofs.YtaadifodgahnjaaGreatDoor
open Go.RowKit Go.Lib
theorem mixed46 : Tryz.prog.follows .mixedOrders = true := by kernel_rfl
theorem in236 : Tryz.prog.underlying 236 = some (.slice 316) := by kernel_rfl
theorem inf316 : ∃ (i0 : TypeInfo) (z : Value),Tryz.prog.info? 316 = some i0 ∧ i0.zero = some z ∧ i0.size = 3 ∧ i0.bytes = 32 ∧ z.cells.size = 3 :=
 ⟨(Tryz.prog.info? 316).getD default,(((Tryz.prog.info? 316).getD default).zero).getD (.bool false),by kernel_rfl,by kernel_rfl,by kernel_rfl,by kernel_rfl,by kernel_rfl⟩
theorem cmp236 (w : World) (a : Option Addr) (n c n' c' : Nat) : (binOp .eql 236 (.slice a n c) (.slice none n' c')).run Tryz.prog w = .ok (.bool a.isNone) w := Lib.run_eql_slice_nil w _ _ a n c n' c' in236
set_option maxHeartbeats 2000000 in
set_option maxRecDepth 100000 in
theorem clone_499 (a : Addr) (n c : Nat) (news : List Value) (w : World) (hl : news.length = n * 3) (hn : n ≤ maxLen) (hbig : n * 32 ≤ 140737488355328) (hc : ∀ j u,news[j]? = some u → w.cell? (a.add j) = some u) (h1 : ∀ u ∈ news,u.oneCell' = true) :
  Calls Tryz.prog 499 #[.slice (some a) n c] w fun o w' => (∃ v',o = .returned v' ∧ w'.ownsRow w.heap.size 316 3 v' n news) ∧ Below w.heap.size w w' := by
 obtain ⟨i0,z,hi,hz0,hz1,hz2,hzs⟩ := inf316
 have mixed := mixed46
 have q := cmp236
 have u : ∀ w,Sem.run Tryz.prog (underlying 236) w = .ok (TypeDesc.slice 316) w := run_underlying in236
 have A : Aside (∀ j u,news[j]? = some u → w.cell? (a.add j) = some u) := hc
 clear hc
 go_enter Tryz.func499,Tryz.ntmps499
 go_wp2_with (at_builtin; refine wpList_append_own _ rfl _ _ 236 rfl w.heap.size 316 i0 z 3 32 in236 hi hz0 hz1 hz2 hzs (by decide) _ _ _ rfl (World.ownsRow_made w #[] 0 (Nat.le_refl _) (Nat.zero_le _) (by simp)) a n c news rfl ?q1 ?q2 ?q3 ?q4 ?q5 ?q6 ?_)
 case q1 => exact hl
 case q2 => intro j u hj; exact Lib.cell?_alloc_some _ (A.out j u hj)
 case q3 => exact h1
 case q4 => rw [Nat.zero_add]; exact hn
 case q5 => rw [Nat.zero_add]; exact hbig
 case q6 => simp
 intro v' w1 hown hgrow hnil
 go_wp2
 go_ret
 refine ⟨⟨v',rfl,by simpa using hown⟩,?_⟩
 exact ((Below.refl _ w).alloc (Nat.le_refl _) _).grown hgrow (by simp) (by intro k hk; simp [Value.ownBlock] at hk; omega)
set_option maxHeartbeats 2000000 in
set_option maxRecDepth 100000 in
theorem clonenil_499 (n c : Nat) (w : World) : Calls Tryz.prog 499 #[.slice none n c] w fun o w' => o = .returned (.slice none 0 0) ∧ w' = w := by
 have mixed := mixed46
 have q := cmp236
 go_enter Tryz.func499,Tryz.ntmps499
 go_wp2
 go_ret
 exact ⟨rfl,rfl⟩
theorem cloneG_499 (gv : Gv) : GenOK Tryz.prog gv 499 (F_CloneG 3 32) := clone_gen clone_499 clonenil_499
theorem in23 : Tryz.prog.underlying 23 = some (.slice 49) := by kernel_rfl
theorem inf49 : ∃ (i0 : TypeInfo) (z : Value),Tryz.prog.info? 49 = some i0 ∧ i0.zero = some z ∧ i0.size = 2 ∧ i0.bytes = 32 ∧ z.cells.size = 2 :=
 ⟨(Tryz.prog.info? 49).getD default,(((Tryz.prog.info? 49).getD default).zero).getD (.bool false),by kernel_rfl,by kernel_rfl,by kernel_rfl,by kernel_rfl,by kernel_rfl⟩
theorem cmp23 (w : World) (a : Option Addr) (n c n' c' : Nat) : (binOp .eql 23 (.slice a n c) (.slice none n' c')).run Tryz.prog w = .ok (.bool a.isNone) w := Lib.run_eql_slice_nil w _ _ a n c n' c' in23
set_option maxHeartbeats 2000000 in
set_option maxRecDepth 100000 in
theorem clone_79 (a : Addr) (n c : Nat) (news : List Value) (w : World) (hl : news.length = n * 2) (hn : n ≤ maxLen) (hbig : n * 32 ≤ 140737488355328) (hc : ∀ j u,news[j]? = some u → w.cell? (a.add j) = some u) (h1 : ∀ u ∈ news,u.oneCell' = true) :
  Calls Tryz.prog 79 #[.slice (some a) n c] w fun o w' => (∃ v',o = .returned v' ∧ w'.ownsRow w.heap.size 49 2 v' n news) ∧ Below w.heap.size w w' := by
 obtain ⟨i0,z,hi,hz0,hz1,hz2,hzs⟩ := inf49
 have mixed := mixed46
 have q := cmp23
 have u : ∀ w,Sem.run Tryz.prog (underlying 23) w = .ok (TypeDesc.slice 49) w := run_underlying in23
 have A : Aside (∀ j u,news[j]? = some u → w.cell? (a.add j) = some u) := hc
 clear hc
 go_enter Tryz.func79,Tryz.ntmps79
 go_wp2_with (at_builtin; refine wpList_append_own _ rfl _ _ 23 rfl w.heap.size 49 i0 z 2 32 in23 hi hz0 hz1 hz2 hzs (by decide) _ _ _ rfl (World.ownsRow_made w #[] 0 (Nat.le_refl _) (Nat.zero_le _) (by simp)) a n c news rfl ?q1 ?q2 ?q3 ?q4 ?q5 ?q6 ?_)
 case q1 => exact hl
 case q2 => intro j u hj; exact Lib.cell?_alloc_some _ (A.out j u hj)
 case q3 => exact h1
 case q4 => rw [Nat.zero_add]; exact hn
 case q5 => rw [Nat.zero_add]; exact hbig
 case q6 => simp
 intro v' w1 hown hgrow hnil
 go_wp2
 go_ret
 refine ⟨⟨v',rfl,by simpa using hown⟩,?_⟩
 exact ((Below.refl _ w).alloc (Nat.le_refl _) _).grown hgrow (by simp) (by intro k hk; simp [Value.ownBlock] at hk; omega)
set_option maxHeartbeats 2000000 in
set_option maxRecDepth 100000 in
theorem clonenil_79 (n c : Nat) (w : World) : Calls Tryz.prog 79 #[.slice none n c] w fun o w' => o = .returned (.slice none 0 0) ∧ w' = w := by
 have mixed := mixed46
 have q := cmp23
 go_enter Tryz.func79,Tryz.ntmps79
 go_wp2
 go_ret
 exact ⟨rfl,rfl⟩
theorem cloneG_79 (gv : Gv) : GenOK Tryz.prog gv 79 (F_CloneG 2 32) := clone_gen clone_79 clonenil_79
theorem in38 : Tryz.prog.underlying 38 = some (.slice 47) := by kernel_rfl
theorem inf47 : ∃ (i0 : TypeInfo) (z : Value),Tryz.prog.info? 47 = some i0 ∧ i0.zero = some z ∧ i0.size = 4 ∧ i0.bytes = 72 ∧ z.cells.size = 4 :=
 ⟨(Tryz.prog.info? 47).getD default,(((Tryz.prog.info? 47).getD default).zero).getD (.bool false),by kernel_rfl,by kernel_rfl,by kernel_rfl,by kernel_rfl,by kernel_rfl⟩
theorem cmp38 (w : World) (a : Option Addr) (n c n' c' : Nat) : (binOp .eql 38 (.slice a n c) (.slice none n' c')).run Tryz.prog w = .ok (.bool a.isNone) w := Lib.run_eql_slice_nil w _ _ a n c n' c' in38
set_option maxHeartbeats 2000000 in
set_option maxRecDepth 100000 in
theorem clone_77 (a : Addr) (n c : Nat) (news : List Value) (w : World) (hl : news.length = n * 4) (hn : n ≤ maxLen) (hbig : n * 72 ≤ 140737488355328) (hc : ∀ j u,news[j]? = some u → w.cell? (a.add j) = some u) (h1 : ∀ u ∈ news,u.oneCell' = true) :
  Calls Tryz.prog 77 #[.slice (some a) n c] w fun o w' => (∃ v',o = .returned v' ∧ w'.ownsRow w.heap.size 47 4 v' n news) ∧ Below w.heap.size w w' := by
 obtain ⟨i0,z,hi,hz0,hz1,hz2,hzs⟩ := inf47
 have mixed := mixed46
 have q := cmp38
 have u : ∀ w,Sem.run Tryz.prog (underlying 38) w = .ok (TypeDesc.slice 47) w := run_underlying in38
 have A : Aside (∀ j u,news[j]? = some u → w.cell? (a.add j) = some u) := hc
 clear hc
 go_enter Tryz.func77,Tryz.ntmps77
 go_wp2_with (at_builtin; refine wpList_append_own _ rfl _ _ 38 rfl w.heap.size 47 i0 z 4 72 in38 hi hz0 hz1 hz2 hzs (by decide) _ _ _ rfl (World.ownsRow_made w #[] 0 (Nat.le_refl _) (Nat.zero_le _) (by simp)) a n c news rfl ?q1 ?q2 ?q3 ?q4 ?q5 ?q6 ?_)
 case q1 => exact hl
 case q2 => intro j u hj; exact Lib.cell?_alloc_some _ (A.out j u hj)
 case q3 => exact h1
 case q4 => rw [Nat.zero_add]; exact hn
 case q5 => rw [Nat.zero_add]; exact hbig
 case q6 => simp
 intro v' w1 hown hgrow hnil
 go_wp2
 go_ret
 refine ⟨⟨v',rfl,by simpa using hown⟩,?_⟩
 exact ((Below.refl _ w).alloc (Nat.le_refl _) _).grown hgrow (by simp) (by intro k hk; simp [Value.ownBlock] at hk; omega)
set_option maxHeartbeats 2000000 in
set_option maxRecDepth 100000 in
theorem clonenil_77 (n c : Nat) (w : World) : Calls Tryz.prog 77 #[.slice none n c] w fun o w' => o = .returned (.slice none 0 0) ∧ w' = w := by
 have mixed := mixed46
 have q := cmp38
 go_enter Tryz.func77,Tryz.ntmps77
 go_wp2
 go_ret
 exact ⟨rfl,rfl⟩
theorem cloneG_77 (gv : Gv) : GenOK Tryz.prog gv 77 (F_CloneG 4 72) := clone_gen clone_77 clonenil_77
theorem in119 : Tryz.prog.underlying 119 = some (.slice 121) := by kernel_rfl
theorem inf121 : ∃ (i0 : TypeInfo) (z : Value),Tryz.prog.info? 121 = some i0 ∧ i0.zero = some z ∧ i0.size = 2 ∧ i0.bytes = 32 ∧ z.cells.size = 2 :=
 ⟨(Tryz.prog.info? 121).getD default,(((Tryz.prog.info? 121).getD default).zero).getD (.bool false),by kernel_rfl,by kernel_rfl,by kernel_rfl,by kernel_rfl,by kernel_rfl⟩
theorem cmp119 (w : World) (a : Option Addr) (n c n' c' : Nat) : (binOp .eql 119 (.slice a n c) (.slice none n' c')).run Tryz.prog w = .ok (.bool a.isNone) w := Lib.run_eql_slice_nil w _ _ a n c n' c' in119
set_option maxHeartbeats 2000000 in
set_option maxRecDepth 100000 in
theorem clone_141 (a : Addr) (n c : Nat) (news : List Value) (w : World) (hl : news.length = n * 2) (hn : n ≤ maxLen) (hbig : n * 32 ≤ 140737488355328) (hc : ∀ j u,news[j]? = some u → w.cell? (a.add j) = some u) (h1 : ∀ u ∈ news,u.oneCell' = true) :
  Calls Tryz.prog 141 #[.slice (some a) n c] w fun o w' => (∃ v',o = .returned v' ∧ w'.ownsRow w.heap.size 121 2 v' n news) ∧ Below w.heap.size w w' := by
 obtain ⟨i0,z,hi,hz0,hz1,hz2,hzs⟩ := inf121
 have mixed := mixed46
 have q := cmp119
 have u : ∀ w,Sem.run Tryz.prog (underlying 119) w = .ok (TypeDesc.slice 121) w := run_underlying in119
 have A : Aside (∀ j u,news[j]? = some u → w.cell? (a.add j) = some u) := hc
 clear hc
 go_enter Tryz.func141,Tryz.ntmps141
 go_wp2_with (at_builtin; refine wpList_append_own _ rfl _ _ 119 rfl w.heap.size 121 i0 z 2 32 in119 hi hz0 hz1 hz2 hzs (by decide) _ _ _ rfl (World.ownsRow_made w #[] 0 (Nat.le_refl _) (Nat.zero_le _) (by simp)) a n c news rfl ?q1 ?q2 ?q3 ?q4 ?q5 ?q6 ?_)
 case q1 => exact hl
 case q2 => intro j u hj; exact Lib.cell?_alloc_some _ (A.out j u hj)
 case q3 => exact h1
 case q4 => rw [Nat.zero_add]; exact hn
 case q5 => rw [Nat.zero_add]; exact hbig
 case q6 => simp
 intro v' w1 hown hgrow hnil
 go_wp2
 go_ret
 refine ⟨⟨v',rfl,by simpa using hown⟩,?_⟩
 exact ((Below.refl _ w).alloc (Nat.le_refl _) _).grown hgrow (by simp) (by intro k hk; simp [Value.ownBlock] at hk; omega)
set_option maxHeartbeats 2000000 in
set_option maxRecDepth 100000 in
theorem clonenil_141 (n c : Nat) (w : World) : Calls Tryz.prog 141 #[.slice none n c] w fun o w' => o = .returned (.slice none 0 0) ∧ w' = w := by
 have mixed := mixed46
 have q := cmp119
 go_enter Tryz.func141,Tryz.ntmps141
 go_wp2
 go_ret
 exact ⟨rfl,rfl⟩
theorem cloneG_141 (gv : Gv) : GenOK Tryz.prog gv 141 (F_CloneG 2 32) := clone_gen clone_141 clonenil_141
theorem in71 : Tryz.prog.underlying 71 = some (.slice 9) := by kernel_rfl
theorem inf9 : ∃ (i0 : TypeInfo) (z : Value),Tryz.prog.info? 9 = some i0 ∧ i0.zero = some z ∧ i0.size = 1 ∧ i0.bytes = 16 ∧ z.cells.size = 1 :=
 ⟨(Tryz.prog.info? 9).getD default,(((Tryz.prog.info? 9).getD default).zero).getD (.bool false),by kernel_rfl,by kernel_rfl,by kernel_rfl,by kernel_rfl,by kernel_rfl⟩
theorem cmp71 (w : World) (a : Option Addr) (n c n' c' : Nat) : (binOp .eql 71 (.slice a n c) (.slice none n' c')).run Tryz.prog w = .ok (.bool a.isNone) w := Lib.run_eql_slice_nil w _ _ a n c n' c' in71
set_option maxHeartbeats 2000000 in
set_option maxRecDepth 100000 in
theorem clone_139 (a : Addr) (n c : Nat) (news : List Value) (w : World) (hl : news.length = n * 1) (hn : n ≤ maxLen) (hbig : n * 16 ≤ 140737488355328) (hc : ∀ j u,news[j]? = some u → w.cell? (a.add j) = some u) (h1 : ∀ u ∈ news,u.oneCell' = true) :
  Calls Tryz.prog 139 #[.slice (some a) n c] w fun o w' => (∃ v',o = .returned v' ∧ w'.ownsRow w.heap.size 9 1 v' n news) ∧ Below w.heap.size w w' := by
 obtain ⟨i0,z,hi,hz0,hz1,hz2,hzs⟩ := inf9
 have mixed := mixed46
 have q := cmp71
 have u : ∀ w,Sem.run Tryz.prog (underlying 71) w = .ok (TypeDesc.slice 9) w := run_underlying in71
 have A : Aside (∀ j u,news[j]? = some u → w.cell? (a.add j) = some u) := hc
 clear hc
 go_enter Tryz.func139,Tryz.ntmps139
 go_wp2_with (at_builtin; refine wpList_append_own _ rfl _ _ 71 rfl w.heap.size 9 i0 z 1 16 in71 hi hz0 hz1 hz2 hzs (by decide) _ _ _ rfl (World.ownsRow_made w #[] 0 (Nat.le_refl _) (Nat.zero_le _) (by simp)) a n c news rfl ?q1 ?q2 ?q3 ?q4 ?q5 ?q6 ?_)
 case q1 => exact hl
 case q2 => intro j u hj; exact Lib.cell?_alloc_some _ (A.out j u hj)
 case q3 => exact h1
 case q4 => rw [Nat.zero_add]; exact hn
 case q5 => rw [Nat.zero_add]; exact hbig
 case q6 => simp
 intro v' w1 hown hgrow hnil
 go_wp2
 go_ret
 refine ⟨⟨v',rfl,by simpa using hown⟩,?_⟩
 exact ((Below.refl _ w).alloc (Nat.le_refl _) _).grown hgrow (by simp) (by intro k hk; simp [Value.ownBlock] at hk; omega)
set_option maxHeartbeats 2000000 in
set_option maxRecDepth 100000 in
theorem clonenil_139 (n c : Nat) (w : World) : Calls Tryz.prog 139 #[.slice none n c] w fun o w' => o = .returned (.slice none 0 0) ∧ w' = w := by
 have mixed := mixed46
 have q := cmp71
 go_enter Tryz.func139,Tryz.ntmps139
 go_wp2
 go_ret
 exact ⟨rfl,rfl⟩
theorem cloneG_139 (gv : Gv) : GenOK Tryz.prog gv 139 (F_CloneG 1 16) := clone_gen clone_139 clonenil_139
end Go.Proofs.YtaadifodgahnjaaGreatDoor
namespace Go.Proofs.YtaadifodgahnjaaGreatDoor
open Go.RowKit Go.Lib
theorem inTree : Tryz.prog.underlying 23 = some (.slice 49) := by kernel_rfl
theorem zeroFile : ∀ w,(zeroValue 49).run Tryz.prog w = .ok (.agg #[.string ⟨#[]⟩,.string ⟨#[]⟩]) w := by
 intro w
 have h1 : ∃ i0,Tryz.prog.info? 49 = some i0 ∧ i0.zero = some (.agg #[.string ⟨#[]⟩,.string ⟨#[]⟩]) := ⟨(Tryz.prog.info? 49).getD default,by kernel_rfl,by kernel_rfl⟩
 obtain ⟨i0,h2,h3⟩ := h1
 simp [zeroValue,typeInfo,h2,h3]
set_option maxHeartbeats 2000000 in
set_option maxRecDepth 100000 in
theorem del_W (blk cap : Nat) (fv : Value) (w : World) (R S : World → Prop) (hcap : 3 ≤ cap)
  (hidx : Calls Tryz.prog 89 #[.slice (some ⟨blk,0,none⟩) 3 cap,fv] w fun e w' => e = .returned (.int .i64 2) ∧ R w')
  (hst : ∀ w',R w' → ∃ w2,(∀ ty,(Builtin.clear_ #[23] ty #[.slice (some ⟨blk,4,none⟩) 1 (cap - 2)]).run Tryz.prog w' = .ok (.tuple #[]) w2) ∧ S w2) :
  Calls Tryz.prog 78 #[.slice (some ⟨blk,0,none⟩) 3 cap,fv] w fun e w' => e = .returned (.slice (some ⟨blk,0,none⟩) 2 cap) ∧ S w' := by
 have mixed := mixed46
 have HS : Aside (∀ w',R w' → ∃ w2,(∀ ty,(Builtin.clear_ #[23] ty #[.slice (some ⟨blk,4,none⟩) 1 (cap - 2)]).run Tryz.prog w' = .ok (.tuple #[]) w2) ∧ S w2) := hst
 clear hst
 go_enter Tryz.func78,Tryz.ntmps78
 go_wp2_with (go_at_call 89; refine hidx.mono ?_; rintro e w' ⟨rfl,hR⟩; obtain ⟨w2,hcl,hS⟩ := HS.out w' hR)
 refine wp_loop_rounds 1 ?_
 rw [rounds_succ]
 go_wp2
 go_ret
 exact ⟨rfl,hS⟩
theorem delF_ok {gv : Gv} {G : Gam} (hG : GamOK Tryz.prog gv G) : GenOK Tryz.prog gv 78 (F_Del3 G 89) :=
 del_gen hG inTree (by kernel_rfl) zeroFile del_W
end Go.Proofs.YtaadifodgahnjaaGreatDoor
