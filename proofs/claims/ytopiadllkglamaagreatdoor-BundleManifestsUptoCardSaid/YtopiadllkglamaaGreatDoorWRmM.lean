/- strings.Builder's copy check at a builder that lies at the head of a struct of two cells: it marks the builder by its own address. slices.Clone at this program's instances. slices.DeleteFunc of files  -/
import Derived.Test.YtopiadllkglamaaGreatDoorChecked
import Derived.Test.YtopiadllkglamaaGreatDoorWRmJ
import Derived.Lib.Builder
import Derived.WalkKit
import Derived.Laws.Externs
import Derived.KernelRfl
import Derived.Shelf.RegionOpenPlain
import Derived.Deep.LoopGhost
import Derived.Lib.Walk
import Derived.Lib.SliceRun
namespace Go.Proofs.YtopiadllkglamaaGreatDoor
open Go.RowKit
theorem xM0 : Tryz.prog.underlying 144 = some (.pointer 146) := by kernel_rfl
theorem wa7 : Tryz.prog.underlying 215 = some .unsafePointer := by kernel_rfl
theorem xa2 : ∃ j,Tryz.prog.info? 146 = some j ∧ j.size = 2 := ⟨_,(by kernel_rfl : Tryz.prog.info? 146 = some ((Tryz.prog.info? 146).getD default)),by kernel_rfl⟩
set_option maxHeartbeats 1000000 in
set_option maxRecDepth 100000 in
theorem yz4 (b : Nat) (τ : TypeId) (w : World) (h0 : w.cell? ⟨b,0,none⟩ = some (.pointer none)) (hsh : w.shape? b = some (τ,2)) (hfz : w.frozen? ⟨b,0,none⟩ = false) (hl : liesAt Tryz.prog Tryz.prog.depth τ (2 / Tryz.prog.cellsOf τ) 0 146 1 = true) :
  Calls Tryz.prog 141 #[.pointer (some ⟨b,0,none⟩)] w fun e w' => e = .returned (.tuple #[]) ∧ w' = w.setCell ⟨b,0,none⟩ (.pointer (some ⟨b,0,none⟩)) := by
 obtain ⟨j,hj,hjs⟩ := xa2
 go_enter Tryz.func141,Tryz.ntmps141
 go_wp2
 rw [Lib.run_to_unsafe w ⟨b,0,none⟩ xM0 wa7 hj (by rw [hjs]; decide) hsh (Nat.zero_lt_succ 1)]
 simp only [Result.andThen]
 rw [Oper.upon_value]
 go_wp2
 rw [run_callFunc_extern Tryz.func174 (by kernel_rfl) (by kernel_rfl) (by kernel_rfl) (e := Extern.AbiNoEscape.same) (by kernel_rfl)]
 rw [Lib.run_noEscape]
 simp only [Result.andThen]
 rw [Oper.upon_value]
 go_wp2
 rw [Lib.run_from_unsafe w ⟨b,0,none⟩ wa7 xM0 hj hsh hl]
 simp only [Result.andThen]
 rw [Oper.upon_value]
 go_wp2
 go_end0
 exact ⟨rfl,rfl⟩
set_option maxHeartbeats 1000000 in
set_option maxRecDepth 100000 in
theorem yo5 (b : Nat) (w : World) (h0 : w.cell? ⟨b,0,none⟩ = some (.pointer (some ⟨b,0,none⟩))) :
  Calls Tryz.prog 141 #[.pointer (some ⟨b,0,none⟩)] w fun e w' => e = .returned (.tuple #[]) ∧ w' = w := by
 obtain ⟨j,hj,hjs⟩ := xa2
 go_enter Tryz.func141,Tryz.ntmps141
 go_wp2
 rw [Lib.run_neq_ptr_same w _ xM0 hj]
 go_wp2
 go_end0
 exact ⟨rfl,rfl⟩
theorem xL3 : liesAt Tryz.prog Tryz.prog.depth 146 (2 / Tryz.prog.cellsOf 146) 0 146 1 = true := by kernel_rfl
theorem xL2 : liesAt Tryz.prog Tryz.prog.depth 352 (2 / Tryz.prog.cellsOf 352) 0 146 1 = true := by kernel_rfl
theorem yz5 (gv : Gv) : zl3 Tryz.prog gv 141 (zy0 [146,352]) :=
 xn9 (fun T hT b w h0 hsh hfz => yz4 b T w h0 hsh hfz (by
  rcases List.mem_cons.1 hT with rfl | hT
  ·exact xL3
  ·rw [List.mem_singleton.1 hT]; exact xL2)) (fun b w h0 => yo5 b w h0)
end Go.Proofs.YtopiadllkglamaaGreatDoor
namespace Go.Proofs.YtopiadllkglamaaGreatDoor
open Go.RowKit Go.Lib
theorem zq7 : Tryz.prog.follows .mixedOrders = true := by kernel_rfl
theorem xL9 : Tryz.prog.underlying 256 = some (.slice 333) := by kernel_rfl
theorem wa4 : ∃ (i0 : TypeInfo) (z : Value),Tryz.prog.info? 333 = some i0 ∧ i0.zero = some z ∧ i0.size = 3 ∧ i0.bytes = 32 ∧ z.cells.size = 3 :=
 ⟨(Tryz.prog.info? 333).getD default,(((Tryz.prog.info? 333).getD default).zero).getD (.bool false),by kernel_rfl,by kernel_rfl,by kernel_rfl,by kernel_rfl,by kernel_rfl⟩
theorem xG0 (w : World) (a : Option Addr) (n c n' c' : Nat) : (binOp .eql 256 (.slice a n c) (.slice none n' c')).run Tryz.prog w = .ok (.bool a.isNone) w := Lib.run_eql_slice_nil w _ _ a n c n' c' xL9
set_option maxHeartbeats 2000000 in
set_option maxRecDepth 100000 in
theorem xo3 (a : Addr) (n c : Nat) (news : List Value) (w : World) (hl : news.length = n * 3) (hn : n ≤ maxLen) (hbig : n * 32 ≤ 140737488355328) (hc : ∀ j u,news[j]? = some u → w.cell? (a.add j) = some u) (h1 : ∀ u ∈ news,u.oneCell' = true) :
  Calls Tryz.prog 509 #[.slice (some a) n c] w fun o w' => (∃ v',o = .returned v' ∧ w'.ownsRow w.heap.size 333 3 v' n news) ∧ Below w.heap.size w w' := by
 obtain ⟨i0,z,hi,hz0,hz1,hz2,hzs⟩ := wa4
 have mixed := zq7
 have q := xG0
 have u : ∀ w,Sem.run Tryz.prog (underlying 256) w = .ok (TypeDesc.slice 333) w := run_underlying xL9
 have A : Aside (∀ j u,news[j]? = some u → w.cell? (a.add j) = some u) := hc
 clear hc
 go_enter Tryz.func509,Tryz.ntmps509
 go_wp2_with (at_builtin; refine wpList_append_own _ rfl _ _ 256 rfl w.heap.size 333 i0 z 3 32 xL9 hi hz0 hz1 hz2 hzs (by decide) _ _ _ rfl (World.ownsRow_made w #[] 0 (Nat.le_refl _) (Nat.zero_le _) (by simp)) a n c news rfl ?q1 ?q2 ?q3 ?q4 ?q5 ?q6 ?_)
 case q1 => exact hl
 case q2 => intro j u hj; exact Lib.cell?_alloc_some _ (A.out j u hj)
 case q3 => exact h1
 case q4 => rw [Nat.zero_add]; exact hn
 case q5 => rw [Nat.zero_add]; exact hbig
 case q6 => simp
 intro v' w1 hown hgrow hnil
 go_wp2
 go_ret
 refine ⟨⟨v',rfl,by simpa using hown⟩,?_⟩
 exact ((Below.refl _ w).alloc (Nat.le_refl _) _).grown hgrow (by simp) (by intro k hk; simp [Value.ownBlock] at hk; omega)
set_option maxHeartbeats 2000000 in
set_option maxRecDepth 100000 in
theorem yA1 (n c : Nat) (w : World) : Calls Tryz.prog 509 #[.slice none n c] w fun o w' => o = .returned (.slice none 0 0) ∧ w' = w := by
 have mixed := zq7
 have q := xG0
 go_enter Tryz.func509,Tryz.ntmps509
 go_wp2
 go_ret
 exact ⟨rfl,rfl⟩
theorem yW6 (gv : Gv) : zl3 Tryz.prog gv 509 (zo1 3 32) := zE2 xo3 yA1
theorem in27 : Tryz.prog.underlying 27 = some (.slice 52) := by kernel_rfl
theorem inf52 : ∃ (i0 : TypeInfo) (z : Value),Tryz.prog.info? 52 = some i0 ∧ i0.zero = some z ∧ i0.size = 2 ∧ i0.bytes = 32 ∧ z.cells.size = 2 :=
 ⟨(Tryz.prog.info? 52).getD default,(((Tryz.prog.info? 52).getD default).zero).getD (.bool false),by kernel_rfl,by kernel_rfl,by kernel_rfl,by kernel_rfl,by kernel_rfl⟩
theorem wc9 (w : World) (a : Option Addr) (n c n' c' : Nat) : (binOp .eql 27 (.slice a n c) (.slice none n' c')).run Tryz.prog w = .ok (.bool a.isNone) w := Lib.run_eql_slice_nil w _ _ a n c n' c' in27
set_option maxHeartbeats 2000000 in
set_option maxRecDepth 100000 in
theorem xA3 (a : Addr) (n c : Nat) (news : List Value) (w : World) (hl : news.length = n * 2) (hn : n ≤ maxLen) (hbig : n * 32 ≤ 140737488355328) (hc : ∀ j u,news[j]? = some u → w.cell? (a.add j) = some u) (h1 : ∀ u ∈ news,u.oneCell' = true) :
  Calls Tryz.prog 85 #[.slice (some a) n c] w fun o w' => (∃ v',o = .returned v' ∧ w'.ownsRow w.heap.size 52 2 v' n news) ∧ Below w.heap.size w w' := by
 obtain ⟨i0,z,hi,hz0,hz1,hz2,hzs⟩ := inf52
 have mixed := zq7
 have q := wc9
 have u : ∀ w,Sem.run Tryz.prog (underlying 27) w = .ok (TypeDesc.slice 52) w := run_underlying in27
 have A : Aside (∀ j u,news[j]? = some u → w.cell? (a.add j) = some u) := hc
 clear hc
 go_enter Tryz.func85,Tryz.ntmps85
 go_wp2_with (at_builtin; refine wpList_append_own _ rfl _ _ 27 rfl w.heap.size 52 i0 z 2 32 in27 hi hz0 hz1 hz2 hzs (by decide) _ _ _ rfl (World.ownsRow_made w #[] 0 (Nat.le_refl _) (Nat.zero_le _) (by simp)) a n c news rfl ?q1 ?q2 ?q3 ?q4 ?q5 ?q6 ?_)
 case q1 => exact hl
 case q2 => intro j u hj; exact Lib.cell?_alloc_some _ (A.out j u hj)
 case q3 => exact h1
 case q4 => rw [Nat.zero_add]; exact hn
 case q5 => rw [Nat.zero_add]; exact hbig
 case q6 => simp
 intro v' w1 hown hgrow hnil
 go_wp2
 go_ret
 refine ⟨⟨v',rfl,by simpa using hown⟩,?_⟩
 exact ((Below.refl _ w).alloc (Nat.le_refl _) _).grown hgrow (by simp) (by intro k hk; simp [Value.ownBlock] at hk; omega)
set_option maxHeartbeats 2000000 in
set_option maxRecDepth 100000 in
theorem yH9 (n c : Nat) (w : World) : Calls Tryz.prog 85 #[.slice none n c] w fun o w' => o = .returned (.slice none 0 0) ∧ w' = w := by
 have mixed := zq7
 have q := wc9
 go_enter Tryz.func85,Tryz.ntmps85
 go_wp2
 go_ret
 exact ⟨rfl,rfl⟩
theorem xo6 (gv : Gv) : zl3 Tryz.prog gv 85 (zo1 2 32) := zE2 xA3 yH9
theorem in23 : Tryz.prog.underlying 23 = some (.slice 50) := by kernel_rfl
theorem inf50 : ∃ (i0 : TypeInfo) (z : Value),Tryz.prog.info? 50 = some i0 ∧ i0.zero = some z ∧ i0.size = 4 ∧ i0.bytes = 72 ∧ z.cells.size = 4 :=
 ⟨(Tryz.prog.info? 50).getD default,(((Tryz.prog.info? 50).getD default).zero).getD (.bool false),by kernel_rfl,by kernel_rfl,by kernel_rfl,by kernel_rfl,by kernel_rfl⟩
theorem wd0 (w : World) (a : Option Addr) (n c n' c' : Nat) : (binOp .eql 23 (.slice a n c) (.slice none n' c')).run Tryz.prog w = .ok (.bool a.isNone) w := Lib.run_eql_slice_nil w _ _ a n c n' c' in23
set_option maxHeartbeats 2000000 in
set_option maxRecDepth 100000 in
theorem xA4 (a : Addr) (n c : Nat) (news : List Value) (w : World) (hl : news.length = n * 4) (hn : n ≤ maxLen) (hbig : n * 72 ≤ 140737488355328) (hc : ∀ j u,news[j]? = some u → w.cell? (a.add j) = some u) (h1 : ∀ u ∈ news,u.oneCell' = true) :
  Calls Tryz.prog 83 #[.slice (some a) n c] w fun o w' => (∃ v',o = .returned v' ∧ w'.ownsRow w.heap.size 50 4 v' n news) ∧ Below w.heap.size w w' := by
 obtain ⟨i0,z,hi,hz0,hz1,hz2,hzs⟩ := inf50
 have mixed := zq7
 have q := wd0
 have u : ∀ w,Sem.run Tryz.prog (underlying 23) w = .ok (TypeDesc.slice 50) w := run_underlying in23
 have A : Aside (∀ j u,news[j]? = some u → w.cell? (a.add j) = some u) := hc
 clear hc
 go_enter Tryz.func83,Tryz.ntmps83
 go_wp2_with (at_builtin; refine wpList_append_own _ rfl _ _ 23 rfl w.heap.size 50 i0 z 4 72 in23 hi hz0 hz1 hz2 hzs (by decide) _ _ _ rfl (World.ownsRow_made w #[] 0 (Nat.le_refl _) (Nat.zero_le _) (by simp)) a n c news rfl ?q1 ?q2 ?q3 ?q4 ?q5 ?q6 ?_)
 case q1 => exact hl
 case q2 => intro j u hj; exact Lib.cell?_alloc_some _ (A.out j u hj)
 case q3 => exact h1
 case q4 => rw [Nat.zero_add]; exact hn
 case q5 => rw [Nat.zero_add]; exact hbig
 case q6 => simp
 intro v' w1 hown hgrow hnil
 go_wp2
 go_ret
 refine ⟨⟨v',rfl,by simpa using hown⟩,?_⟩
 exact ((Below.refl _ w).alloc (Nat.le_refl _) _).grown hgrow (by simp) (by intro k hk; simp [Value.ownBlock] at hk; omega)
set_option maxHeartbeats 2000000 in
set_option maxRecDepth 100000 in
theorem yI0 (n c : Nat) (w : World) : Calls Tryz.prog 83 #[.slice none n c] w fun o w' => o = .returned (.slice none 0 0) ∧ w' = w := by
 have mixed := zq7
 have q := wd0
 go_enter Tryz.func83,Tryz.ntmps83
 go_wp2
 go_ret
 exact ⟨rfl,rfl⟩
theorem xo7 (gv : Gv) : zl3 Tryz.prog gv 83 (zo1 4 72) := zE2 xA4 yI0
theorem xM1 : Tryz.prog.underlying 116 = some (.slice 118) := by kernel_rfl
theorem wa5 : ∃ (i0 : TypeInfo) (z : Value),Tryz.prog.info? 118 = some i0 ∧ i0.zero = some z ∧ i0.size = 2 ∧ i0.bytes = 32 ∧ z.cells.size = 2 :=
 ⟨(Tryz.prog.info? 118).getD default,(((Tryz.prog.info? 118).getD default).zero).getD (.bool false),by kernel_rfl,by kernel_rfl,by kernel_rfl,by kernel_rfl,by kernel_rfl⟩
theorem xG1 (w : World) (a : Option Addr) (n c n' c' : Nat) : (binOp .eql 116 (.slice a n c) (.slice none n' c')).run Tryz.prog w = .ok (.bool a.isNone) w := Lib.run_eql_slice_nil w _ _ a n c n' c' xM1
set_option maxHeartbeats 2000000 in
set_option maxRecDepth 100000 in
theorem xo4 (a : Addr) (n c : Nat) (news : List Value) (w : World) (hl : news.length = n * 2) (hn : n ≤ maxLen) (hbig : n * 32 ≤ 140737488355328) (hc : ∀ j u,news[j]? = some u → w.cell? (a.add j) = some u) (h1 : ∀ u ∈ news,u.oneCell' = true) :
  Calls Tryz.prog 161 #[.slice (some a) n c] w fun o w' => (∃ v',o = .returned v' ∧ w'.ownsRow w.heap.size 118 2 v' n news) ∧ Below w.heap.size w w' := by
 obtain ⟨i0,z,hi,hz0,hz1,hz2,hzs⟩ := wa5
 have mixed := zq7
 have q := xG1
 have u : ∀ w,Sem.run Tryz.prog (underlying 116) w = .ok (TypeDesc.slice 118) w := run_underlying xM1
 have A : Aside (∀ j u,news[j]? = some u → w.cell? (a.add j) = some u) := hc
 clear hc
 go_enter Tryz.func161,Tryz.ntmps161
 go_wp2_with (at_builtin; refine wpList_append_own _ rfl _ _ 116 rfl w.heap.size 118 i0 z 2 32 xM1 hi hz0 hz1 hz2 hzs (by decide) _ _ _ rfl (World.ownsRow_made w #[] 0 (Nat.le_refl _) (Nat.zero_le _) (by simp)) a n c news rfl ?q1 ?q2 ?q3 ?q4 ?q5 ?q6 ?_)
 case q1 => exact hl
 case q2 => intro j u hj; exact Lib.cell?_alloc_some _ (A.out j u hj)
 case q3 => exact h1
 case q4 => rw [Nat.zero_add]; exact hn
 case q5 => rw [Nat.zero_add]; exact hbig
 case q6 => simp
 intro v' w1 hown hgrow hnil
 go_wp2
 go_ret
 refine ⟨⟨v',rfl,by simpa using hown⟩,?_⟩
 exact ((Below.refl _ w).alloc (Nat.le_refl _) _).grown hgrow (by simp) (by intro k hk; simp [Value.ownBlock] at hk; omega)
set_option maxHeartbeats 2000000 in
set_option maxRecDepth 100000 in
theorem yA2 (n c : Nat) (w : World) : Calls Tryz.prog 161 #[.slice none n c] w fun o w' => o = .returned (.slice none 0 0) ∧ w' = w := by
 have mixed := zq7
 have q := xG1
 go_enter Tryz.func161,Tryz.ntmps161
 go_wp2
 go_ret
 exact ⟨rfl,rfl⟩
theorem yW7 (gv : Gv) : zl3 Tryz.prog gv 161 (zo1 2 32) := zE2 xo4 yA2
theorem in62 : Tryz.prog.underlying 62 = some (.slice 9) := by kernel_rfl
theorem inf9 : ∃ (i0 : TypeInfo) (z : Value),Tryz.prog.info? 9 = some i0 ∧ i0.zero = some z ∧ i0.size = 1 ∧ i0.bytes = 16 ∧ z.cells.size = 1 :=
 ⟨(Tryz.prog.info? 9).getD default,(((Tryz.prog.info? 9).getD default).zero).getD (.bool false),by kernel_rfl,by kernel_rfl,by kernel_rfl,by kernel_rfl,by kernel_rfl⟩
theorem wc8 (w : World) (a : Option Addr) (n c n' c' : Nat) : (binOp .eql 62 (.slice a n c) (.slice none n' c')).run Tryz.prog w = .ok (.bool a.isNone) w := Lib.run_eql_slice_nil w _ _ a n c n' c' in62
set_option maxHeartbeats 2000000 in
set_option maxRecDepth 100000 in
theorem xo5 (a : Addr) (n c : Nat) (news : List Value) (w : World) (hl : news.length = n * 1) (hn : n ≤ maxLen) (hbig : n * 16 ≤ 140737488355328) (hc : ∀ j u,news[j]? = some u → w.cell? (a.add j) = some u) (h1 : ∀ u ∈ news,u.oneCell' = true) :
  Calls Tryz.prog 159 #[.slice (some a) n c] w fun o w' => (∃ v',o = .returned v' ∧ w'.ownsRow w.heap.size 9 1 v' n news) ∧ Below w.heap.size w w' := by
 obtain ⟨i0,z,hi,hz0,hz1,hz2,hzs⟩ := inf9
 have mixed := zq7
 have q := wc8
 have u : ∀ w,Sem.run Tryz.prog (underlying 62) w = .ok (TypeDesc.slice 9) w := run_underlying in62
 have A : Aside (∀ j u,news[j]? = some u → w.cell? (a.add j) = some u) := hc
 clear hc
 go_enter Tryz.func159,Tryz.ntmps159
 go_wp2_with (at_builtin; refine wpList_append_own _ rfl _ _ 62 rfl w.heap.size 9 i0 z 1 16 in62 hi hz0 hz1 hz2 hzs (by decide) _ _ _ rfl (World.ownsRow_made w #[] 0 (Nat.le_refl _) (Nat.zero_le _) (by simp)) a n c news rfl ?q1 ?q2 ?q3 ?q4 ?q5 ?q6 ?_)
 case q1 => exact hl
 case q2 => intro j u hj; exact Lib.cell?_alloc_some _ (A.out j u hj)
 case q3 => exact h1
 case q4 => rw [Nat.zero_add]; exact hn
 case q5 => rw [Nat.zero_add]; exact hbig
 case q6 => simp
 intro v' w1 hown hgrow hnil
 go_wp2
 go_ret
 refine ⟨⟨v',rfl,by simpa using hown⟩,?_⟩
 exact ((Below.refl _ w).alloc (Nat.le_refl _) _).grown hgrow (by simp) (by intro k hk; simp [Value.ownBlock] at hk; omega)
set_option maxHeartbeats 2000000 in
set_option maxRecDepth 100000 in
theorem yA3 (n c : Nat) (w : World) : Calls Tryz.prog 159 #[.slice none n c] w fun o w' => o = .returned (.slice none 0 0) ∧ w' = w := by
 have mixed := zq7
 have q := wc8
 go_enter Tryz.func159,Tryz.ntmps159
 go_wp2
 go_ret
 exact ⟨rfl,rfl⟩
theorem yW8 (gv : Gv) : zl3 Tryz.prog gv 159 (zo1 1 16) := zE2 xo5 yA3
end Go.Proofs.YtopiadllkglamaaGreatDoor
namespace Go.Proofs.YtopiadllkglamaaGreatDoor
open Go.RowKit Go.Lib
theorem wa6 : Tryz.prog.underlying 27 = some (.slice 52) := by kernel_rfl
theorem xs7 : ∀ w,(zeroValue 52).run Tryz.prog w = .ok (.agg #[.string ⟨#[]⟩,.string ⟨#[]⟩]) w := by
 intro w
 have h1 : ∃ i0,Tryz.prog.info? 52 = some i0 ∧ i0.zero = some (.agg #[.string ⟨#[]⟩,.string ⟨#[]⟩]) := ⟨(Tryz.prog.info? 52).getD default,by kernel_rfl,by kernel_rfl⟩
 obtain ⟨i0,h2,h3⟩ := h1
 simp [zeroValue,typeInfo,h2,h3]
set_option maxHeartbeats 2000000 in
set_option maxRecDepth 100000 in
theorem del_W (blk cap : Nat) (fv : Value) (w : World) (R S : World → Prop) (hcap : 3 ≤ cap)
  (hidx : Calls Tryz.prog 88 #[.slice (some ⟨blk,0,none⟩) 3 cap,fv] w fun e w' => e = .returned (.int .i64 2) ∧ R w')
  (hst : ∀ w',R w' → ∃ w2,(∀ ty,(Builtin.clear_ #[27] ty #[.slice (some ⟨blk,4,none⟩) 1 (cap - 2)]).run Tryz.prog w' = .ok (.tuple #[]) w2) ∧ S w2) :
  Calls Tryz.prog 84 #[.slice (some ⟨blk,0,none⟩) 3 cap,fv] w fun e w' => e = .returned (.slice (some ⟨blk,0,none⟩) 2 cap) ∧ S w' := by
 have mixed := zq7
 have HS : Aside (∀ w',R w' → ∃ w2,(∀ ty,(Builtin.clear_ #[27] ty #[.slice (some ⟨blk,4,none⟩) 1 (cap - 2)]).run Tryz.prog w' = .ok (.tuple #[]) w2) ∧ S w2) := hst
 clear hst
 go_enter Tryz.func84,Tryz.ntmps84
 go_wp2_with (go_at_call 88; refine hidx.mono ?_; rintro e w' ⟨rfl,hR⟩; obtain ⟨w2,hcl,hS⟩ := HS.out w' hR)
 refine wp_loop_rounds 1 ?_
 rw [rounds_succ]
 go_wp2
 go_ret
 exact ⟨rfl,hS⟩
theorem xO0 {gv : Gv} {G : Gam} (hG : GamOK Tryz.prog gv G) : zl3 Tryz.prog gv 84 (yR3 G 88) :=
 xN9 hG wa6 (by kernel_rfl) xs7 del_W
end Go.Proofs.YtopiadllkglamaaGreatDoor
