/- The resolved functions are the functions of the program (law 46). -/
import Derived.Test.YtopiadllkglamaaGreatDoorZRecMc
import Derived.Test.YtopiadllkglamaaGreatDoorZAm9
import Derived.Test.YtopiadllkglamaaGreatDoorZAm8
import Derived.Test.YtopiadllkglamaaGreatDoorChecked
import Derived.KernelRfl
import Derived.Lib.ItoaNum
namespace Go.Proofs.YtopiadllkglamaaGreatDoor
structure GvP where
 m : Int
 t4 : TypeId
 p4 : Value
 t5 : TypeId
 p5 : Value
def gv1 (m : GvP) : Gv := ⟨fun g => if g = 0 then some [.int .i64 m.m] else none,fun g => if g = 1 then some (Lib.pow10Tab.map fun z => Value.int .u64 z) else if g = 2 then some [.iface m.t4 m.p4] else if g = 3 then some [.iface m.t5 m.p5] else none⟩
theorem Ok.q59 (m : GvP) : (compC Tryz.prog (gv1 m) Ks.q59 Tryz.f7.ntmps [] (Tryz.f7.body.getD .skip) Dl.q59).1 = Mc.q59 := by kernel_rfl
theorem Ok.q54 (m : GvP) : (compC Tryz.prog (gv1 m) Ks.q54 Tryz.f10.ntmps [] (Tryz.f10.body.getD .skip) Dl.q54).1 = Mc.q54 := by kernel_rfl
theorem Ok.q60 (m : GvP) : (compC Tryz.prog (gv1 m) Ks.q60 Tryz.f13.ntmps [] (Tryz.f13.body.getD .skip) Dl.q60).1 = Mc.q60 := by kernel_rfl
theorem Ok.tree_Check (m : GvP) : (compC Tryz.prog (gv1 m) Ks.tree_Check Tryz.f25.ntmps [] (Tryz.f25.body.getD .skip) Dl.tree_Check).1 = Mc.tree_Check := by kernel_rfl
theorem Ok.q45 (m : GvP) : (compC Tryz.prog (gv1 m) Ks.q45 Tryz.f30.ntmps [] (Tryz.f30.body.getD .skip) Dl.q45).1 = Mc.q45 := by kernel_rfl
theorem Ok.bundle_rows (m : GvP) : (compC Tryz.prog (gv1 m) Ks.bundle_rows Tryz.f26.ntmps [] (Tryz.f26.body.getD .skip) Dl.bundle_rows).1 = Mc.bundle_rows := by kernel_rfl
theorem Ok.tree_Path (m : GvP) : (compC Tryz.prog (gv1 m) Ks.tree_Path Tryz.f33.ntmps [] (Tryz.f33.body.getD .skip) Dl.tree_Path).1 = Mc.tree_Path := by kernel_rfl
theorem Ok.q55 (m : GvP) : (compC Tryz.prog (gv1 m) Ks.q55 Tryz.f38.ntmps [] (Tryz.f38.body.getD .skip) Dl.q55).1 = Mc.q55 := by kernel_rfl
theorem Ok.q12 (m : GvP) : (compC Tryz.prog (gv1 m) Ks.q12 Tryz.f46.ntmps [] (Tryz.f46.body.getD .skip) Dl.q12).1 = Mc.q12 := by kernel_rfl
theorem Ok.q73 (m : GvP) : (compC Tryz.prog (gv1 m) Ks.q73 Tryz.f56.ntmps [] (Tryz.f56.body.getD .skip) Dl.q73).1 = Mc.q73 := by kernel_rfl
theorem Ok.tree_below (m : GvP) : (compC Tryz.prog (gv1 m) Ks.tree_below Tryz.f57.ntmps [] (Tryz.f57.body.getD .skip) Dl.tree_below).1 = Mc.tree_below := by kernel_rfl
theorem Ok.q47 (m : GvP) : (compC Tryz.prog (gv1 m) Ks.q47 Tryz.f63.ntmps [] (Tryz.f63.body.getD .skip) Dl.q47).1 = Mc.q47 := by kernel_rfl
theorem Ok.q70 (m : GvP) : (compC Tryz.prog (gv1 m) Ks.q70 Tryz.f329.ntmps [] (Tryz.f329.body.getD .skip) Dl.q70).1 = Mc.q70 := by kernel_rfl
theorem Pure.q70 {m : GvP} {G : Gam} (hG : GamOK Tryz.prog (gv1 m) G) {F : List AV → Option AV} (hF : ∀ args r,F args = some r → wpM G Mc.q70 (pureQ Rs.q70 r) [] (frInit Ks.q70 args) []) : PureOK Tryz.prog (gv1 m) Fn.q70 F :=
 pure_of (by kernel_rfl) hG Tryz.func329 rfl (ks := Ks.q70) (rs := Rs.q70) (by kernel_rfl) (by kernel_rfl) (Ok.q70 m) hF
theorem Ok.q57 (m : GvP) : (compC Tryz.prog (gv1 m) Ks.q57 Tryz.f52.ntmps [] (Tryz.f52.body.getD .skip) Dl.q57).1 = Mc.q57 := by kernel_rfl
theorem Ok.q18 (m : GvP) : (compC Tryz.prog (gv1 m) Ks.q18 Tryz.f60.ntmps [] (Tryz.f60.body.getD .skip) Dl.q18).1 = Mc.q18 := by kernel_rfl
theorem Pure.q18 {m : GvP} {G : Gam} (hG : GamOK Tryz.prog (gv1 m) G) {F : List AV → Option AV} (hF : ∀ args r,F args = some r → wpM G Mc.q18 (pureQ Rs.q18 r) [] (frInit Ks.q18 args) []) : PureOK Tryz.prog (gv1 m) Fn.q18 F :=
 pure_of (by kernel_rfl) hG Tryz.func60 rfl (ks := Ks.q18) (rs := Rs.q18) (by kernel_rfl) (by kernel_rfl) (Ok.q18 m) hF
theorem Ok.q14 (m : GvP) : (compC Tryz.prog (gv1 m) Ks.q14 Tryz.f66.ntmps [] (Tryz.f66.body.getD .skip) Dl.q14).1 = Mc.q14 := by kernel_rfl
theorem Ok.tree_Path_1 (m : GvP) : (compC Tryz.prog (gv1 m) Ks.tree_Path_1 Tryz.f67.ntmps [] (Tryz.f67.body.getD .skip) Dl.tree_Path_1).1 = Mc.tree_Path_1 := by kernel_rfl
theorem Ok.tree_part (m : GvP) : (compC Tryz.prog (gv1 m) Ks.tree_part Tryz.f68.ntmps [] (Tryz.f68.body.getD .skip) Dl.tree_part).1 = Mc.tree_part := by kernel_rfl
theorem Ok.q48 (m : GvP) : (compC Tryz.prog (gv1 m) Ks.q48 Tryz.f74.ntmps [] (Tryz.f74.body.getD .skip) Dl.q48).1 = Mc.q48 := by kernel_rfl
theorem Ok.q15 (m : GvP) : (compC Tryz.prog (gv1 m) Ks.q15 Tryz.f88.ntmps [] (Tryz.f88.body.getD .skip) Dl.q15).1 = Mc.q15 := by kernel_rfl
theorem Ok.q40 (m : GvP) : (compC Tryz.prog (gv1 m) Ks.q40 Tryz.f101.ntmps [] (Tryz.f101.body.getD .skip) Dl.q40).1 = Mc.q40 := by kernel_rfl
theorem Pure.q40 {m : GvP} {G : Gam} (hG : GamOK Tryz.prog (gv1 m) G) {F : List AV → Option AV} (hF : ∀ args r,F args = some r → wpM G Mc.q40 (pureQ Rs.q40 r) [] (frInit Ks.q40 args) []) : PureOK Tryz.prog (gv1 m) Fn.q40 F :=
 pure_of (by kernel_rfl) hG Tryz.func101 rfl (ks := Ks.q40) (rs := Rs.q40) (by kernel_rfl) (by kernel_rfl) (Ok.q40 m) hF
theorem Ok.q21 (m : GvP) : (compC Tryz.prog (gv1 m) Ks.q21 Tryz.f104.ntmps [] (Tryz.f104.body.getD .skip) Dl.q21).1 = Mc.q21 := by kernel_rfl
theorem Pure.q21 {m : GvP} {G : Gam} (hG : GamOK Tryz.prog (gv1 m) G) {F : List AV → Option AV} (hF : ∀ args r,F args = some r → wpM G Mc.q21 (pureQ Rs.q21 r) [] (frInit Ks.q21 args) []) : PureOK Tryz.prog (gv1 m) Fn.q21 F :=
 pure_of (by kernel_rfl) hG Tryz.func104 rfl (ks := Ks.q21) (rs := Rs.q21) (by kernel_rfl) (by kernel_rfl) (Ok.q21 m) hF
theorem Ok.q17 (m : GvP) : (compC Tryz.prog (gv1 m) Ks.q17 Tryz.f106.ntmps [] (Tryz.f106.body.getD .skip) Dl.q17).1 = Mc.q17 := by kernel_rfl
theorem Ok.q34 (m : GvP) : (compC Tryz.prog (gv1 m) Ks.q34 Tryz.f107.ntmps [] (Tryz.f107.body.getD .skip) Dl.q34).1 = Mc.q34 := by kernel_rfl
theorem Ok.tree_part_1 (m : GvP) : (compC Tryz.prog (gv1 m) Ks.tree_part_1 Tryz.f108.ntmps [] (Tryz.f108.body.getD .skip) Dl.tree_part_1).1 = Mc.tree_part_1 := by kernel_rfl
theorem Ok.q41 (m : GvP) : (compC Tryz.prog (gv1 m) Ks.q41 Tryz.f135.ntmps [] (Tryz.f135.body.getD .skip) Dl.q41).1 = Mc.q41 := by kernel_rfl
theorem Ok.q42 (m : GvP) : (compC Tryz.prog (gv1 m) Ks.q42 Tryz.f169.ntmps [] (Tryz.f169.body.getD .skip) Dl.q42).1 = Mc.q42 := by kernel_rfl
theorem Ok.digest_Sum (m : GvP) : (compC Tryz.prog (gv1 m) Ks.digest_Sum Tryz.f73.ntmps [] (Tryz.f73.body.getD .skip) Dl.digest_Sum).1 = Mc.digest_Sum := by kernel_rfl
theorem Pure.digest_Sum {m : GvP} {G : Gam} (hG : GamOK Tryz.prog (gv1 m) G) {F : List AV → Option AV} (hF : ∀ args r,F args = some r → wpM G Mc.digest_Sum (pureQ Rs.digest_Sum r) [] (frInit Ks.digest_Sum args) []) : PureOK Tryz.prog (gv1 m) Fn.digest_Sum F :=
 pure_of (by kernel_rfl) hG Tryz.func73 rfl (ks := Ks.digest_Sum) (rs := Rs.digest_Sum) (by kernel_rfl) (by kernel_rfl) (Ok.digest_Sum m) hF
theorem Ok.digest_New (m : GvP) : (compC Tryz.prog (gv1 m) Ks.digest_New Tryz.f114.ntmps [] (Tryz.f114.body.getD .skip) Dl.digest_New).1 = Mc.digest_New := by kernel_rfl
theorem Gen.digest_New {m : GvP} {G : Gam} (hG : GamOK Tryz.prog (gv1 m) G) {F : List AV → Heap → Option (AV × Heap)} (hF : ∀ args h r h',F args h = some (r,h') → wpM G Mc.digest_New (genQ Rs.digest_New r h') [] (frInit Ks.digest_New args) h) : GenOK Tryz.prog (gv1 m) Fn.digest_New F :=
 gen_of (by kernel_rfl) hG Tryz.func114 rfl (ks := Ks.digest_New) (rs := Rs.digest_New) (by kernel_rfl) (by kernel_rfl) (Ok.digest_New m) hF
theorem Ok.q29 (m : GvP) : (compC Tryz.prog (gv1 m) Ks.q29 Tryz.f115.ntmps Ow.__digest_Sponge__Write (Tryz.f115.body.getD .skip) Dl.q29).1 = Mc.q29 := by kernel_rfl
theorem Gen.q29 {m : GvP} {G : Gam} (hG : GamOK Tryz.prog (gv1 m) G) {F : List AV → Heap → Option (AV × Heap)} (hF : ∀ args h r h',F args h = some (r,h') → wpM G Mc.q29 (genQ Rs.q29 r h') [] (frInit Ks.q29 args) h) : GenOK Tryz.prog (gv1 m) Fn.q29 F :=
 gen_of (by kernel_rfl) hG Tryz.func115 rfl (ks := Ks.q29) (rs := Rs.q29) (by kernel_rfl) (by kernel_rfl) (Ok.q29 m) hF
theorem Ok.q35 (m : GvP) : (compC Tryz.prog (gv1 m) Ks.q35 Tryz.f116.ntmps [] (Tryz.f116.body.getD .skip) Dl.q35).1 = Mc.q35 := by kernel_rfl
theorem Gen.q35 {m : GvP} {G : Gam} (hG : GamOK Tryz.prog (gv1 m) G) {F : List AV → Heap → Option (AV × Heap)} (hF : ∀ args h r h',F args h = some (r,h') → wpM G Mc.q35 (genQ Rs.q35 r h') [] (frInit Ks.q35 args) h) : GenOK Tryz.prog (gv1 m) Fn.q35 F :=
 gen_of (by kernel_rfl) hG Tryz.func116 rfl (ks := Ks.q35) (rs := Rs.q35) (by kernel_rfl) (by kernel_rfl) (Ok.q35 m) hF
theorem Ok.q27 (m : GvP) : (compC Tryz.prog (gv1 m) Ks.q27 Tryz.f142.ntmps [] (Tryz.f142.body.getD .skip) Dl.q27).1 = Mc.q27 := by kernel_rfl
theorem Gen.q27 {m : GvP} {G : Gam} (hG : GamOK Tryz.prog (gv1 m) G) {F : List AV → Heap → Option (AV × Heap)} (hF : ∀ args h r h',F args h = some (r,h') → wpM G Mc.q27 (genQ Rs.q27 r h') [] (frInit Ks.q27 args) h) : GenOK Tryz.prog (gv1 m) Fn.q27 F :=
 gen_of (by kernel_rfl) hG Tryz.func142 rfl (ks := Ks.q27) (rs := Rs.q27) (by kernel_rfl) (by kernel_rfl) (Ok.q27 m) hF
theorem Ok.q30 (m : GvP) : (compC Tryz.prog (gv1 m) Ks.q30 Tryz.f143.ntmps [] (Tryz.f143.body.getD .skip) Dl.q30).1 = Mc.q30 := by kernel_rfl
theorem Gen.q30 {m : GvP} {G : Gam} (hG : GamOK Tryz.prog (gv1 m) G) {F : List AV → Heap → Option (AV × Heap)} (hF : ∀ args h r h',F args h = some (r,h') → wpM G Mc.q30 (genQ Rs.q30 r h') [] (frInit Ks.q30 args) h) : GenOK Tryz.prog (gv1 m) Fn.q30 F :=
 gen_of (by kernel_rfl) hG Tryz.func143 rfl (ks := Ks.q30) (rs := Rs.q30) (by kernel_rfl) (by kernel_rfl) (Ok.q30 m) hF
theorem Ok.q62 (m : GvP) : (compC Tryz.prog (gv1 m) Ks.q62 Tryz.f175.ntmps [] (Tryz.f175.body.getD .skip) Dl.q62).1 = Mc.q62 := by kernel_rfl
theorem Pure.q62 {m : GvP} {G : Gam} (hG : GamOK Tryz.prog (gv1 m) G) {F : List AV → Option AV} (hF : ∀ args r,F args = some r → wpM G Mc.q62 (pureQ Rs.q62 r) [] (frInit Ks.q62 args) []) : PureOK Tryz.prog (gv1 m) Fn.q62 F :=
 pure_of (by kernel_rfl) hG Tryz.func175 rfl (ks := Ks.q62) (rs := Rs.q62) (by kernel_rfl) (by kernel_rfl) (Ok.q62 m) hF
theorem Ok.q63 (m : GvP) : (compC Tryz.prog (gv1 m) Ks.q63 Tryz.f200.ntmps [] (Tryz.f200.body.getD .skip) Dl.q63).1 = Mc.q63 := by kernel_rfl
theorem Pure.q63 {m : GvP} {G : Gam} (hG : GamOK Tryz.prog (gv1 m) G) {F : List AV → Option AV} (hF : ∀ args r,F args = some r → wpM G Mc.q63 (pureQ Rs.q63 r) [] (frInit Ks.q63 args) []) : PureOK Tryz.prog (gv1 m) Fn.q63 F :=
 pure_of (by kernel_rfl) hG Tryz.func200 rfl (ks := Ks.q63) (rs := Rs.q63) (by kernel_rfl) (by kernel_rfl) (Ok.q63 m) hF
theorem Ok.q50 (m : GvP) : (compC Tryz.prog (gv1 m) Ks.q50 Tryz.f201.ntmps [] (Tryz.f201.body.getD .skip) Dl.q50).1 = Mc.q50 := by kernel_rfl
theorem Pure.q50 {m : GvP} {G : Gam} (hG : GamOK Tryz.prog (gv1 m) G) {F : List AV → Option AV} (hF : ∀ args r,F args = some r → wpM G Mc.q50 (pureQ Rs.q50 r) [] (frInit Ks.q50 args) []) : PureOK Tryz.prog (gv1 m) Fn.q50 F :=
 pure_of (by kernel_rfl) hG Tryz.func201 rfl (ks := Ks.q50) (rs := Rs.q50) (by kernel_rfl) (by kernel_rfl) (Ok.q50 m) hF
theorem Ok.q77 (m : GvP) : (compC Tryz.prog (gv1 m) Ks.q77 Tryz.f202.ntmps [] (Tryz.f202.body.getD .skip) Dl.q77).1 = Mc.q77 := by kernel_rfl
theorem Pure.q77 {m : GvP} {G : Gam} (hG : GamOK Tryz.prog (gv1 m) G) {F : List AV → Option AV} (hF : ∀ args r,F args = some r → wpM G Mc.q77 (pureQ Rs.q77 r) [] (frInit Ks.q77 args) []) : PureOK Tryz.prog (gv1 m) Fn.q77 F :=
 pure_of (by kernel_rfl) hG Tryz.func202 rfl (ks := Ks.q77) (rs := Rs.q77) (by kernel_rfl) (by kernel_rfl) (Ok.q77 m) hF
theorem Ok.q33 (m : GvP) : (compC Tryz.prog (gv1 m) Ks.q33 Tryz.f232.ntmps [] (Tryz.f232.body.getD .skip) Dl.q33).1 = Mc.q33 := by kernel_rfl
theorem Pure.q33 {m : GvP} {G : Gam} (hG : GamOK Tryz.prog (gv1 m) G) {F : List AV → Option AV} (hF : ∀ args r,F args = some r → wpM G Mc.q33 (pureQ Rs.q33 r) [] (frInit Ks.q33 args) []) : PureOK Tryz.prog (gv1 m) Fn.q33 F :=
 pure_of (by kernel_rfl) hG Tryz.func232 rfl (ks := Ks.q33) (rs := Rs.q33) (by kernel_rfl) (by kernel_rfl) (Ok.q33 m) hF
end Go.Proofs.YtopiadllkglamaaGreatDoor
