/- The resolved functions are the functions of the program (law 46). -/
import Derived.Test.YtopiadllkglamaaGreatDoorWRecMc
import Derived.Test.YtopiadllkglamaaGreatDoorWAm9
import Derived.Test.YtopiadllkglamaaGreatDoorWAm8
import Derived.Test.YtopiadllkglamaaGreatDoorChecked
import Derived.KernelRfl
import Derived.Lib.ItoaNum
namespace Go.Proofs.YtopiadllkglamaaGreatDoor
structure GvP where
 m : Int
 t4 : TypeId
 p4 : Value
 t5 : TypeId
 p5 : Value
def gv1 (m : GvP) : Gv := ⟨fun g => if g = 0 then some [.int .i64 m.m] else none,fun g => if g = 1 then some (Lib.pow10Tab.map fun z => Value.int .u64 z) else if g = 2 then some [.iface m.t4 m.p4] else if g = 3 then some [.iface m.t5 m.p5] else none⟩
theorem Ok.q62 (m : GvP) : (ze5 Tryz.prog (gv1 m) Ks.q62 Tryz.f13.ntmps [] (Tryz.f13.body.getD .skip) Dl.q62).1 = Mc.q62 := by kernel_rfl
theorem Ok.bundle_Read (m : GvP) : (ze5 Tryz.prog (gv1 m) Ks.bundle_Read Tryz.f17.ntmps [] (Tryz.f17.body.getD .skip) Dl.bundle_Read).1 = Mc.bundle_Read := by kernel_rfl
theorem Ok.tree_Check (m : GvP) : (ze5 Tryz.prog (gv1 m) Ks.tree_Check Tryz.f25.ntmps [] (Tryz.f25.body.getD .skip) Dl.tree_Check).1 = Mc.tree_Check := by kernel_rfl
theorem Ok.q46 (m : GvP) : (ze5 Tryz.prog (gv1 m) Ks.q46 Tryz.f30.ntmps [] (Tryz.f30.body.getD .skip) Dl.q46).1 = Mc.q46 := by kernel_rfl
theorem Ok.bundle_rows (m : GvP) : (ze5 Tryz.prog (gv1 m) Ks.bundle_rows Tryz.f26.ntmps [] (Tryz.f26.body.getD .skip) Dl.bundle_rows).1 = Mc.bundle_rows := by kernel_rfl
theorem Ok.q74 (m : GvP) : (ze5 Tryz.prog (gv1 m) Ks.q74 Tryz.f34.ntmps [] (Tryz.f34.body.getD .skip) Dl.q74).1 = Mc.q74 := by kernel_rfl
theorem Ok.tree_Path (m : GvP) : (ze5 Tryz.prog (gv1 m) Ks.tree_Path Tryz.f33.ntmps [] (Tryz.f33.body.getD .skip) Dl.tree_Path).1 = Mc.tree_Path := by kernel_rfl
theorem Ok.bundle_file (m : GvP) : (ze5 Tryz.prog (gv1 m) Ks.bundle_file Tryz.f41.ntmps [] (Tryz.f41.body.getD .skip) Dl.bundle_file).1 = Mc.bundle_file := by kernel_rfl
theorem Ok.q58 (m : GvP) : (ze5 Tryz.prog (gv1 m) Ks.q58 Tryz.f38.ntmps [] (Tryz.f38.body.getD .skip) Dl.q58).1 = Mc.q58 := by kernel_rfl
theorem Ok.q47 (m : GvP) : (ze5 Tryz.prog (gv1 m) Ks.q47 Tryz.f39.ntmps [] (Tryz.f39.body.getD .skip) Dl.q47).1 = Mc.q47 := by kernel_rfl
theorem Ok.q9 (m : GvP) : (ze5 Tryz.prog (gv1 m) Ks.q9 Tryz.f46.ntmps [] (Tryz.f46.body.getD .skip) Dl.q9).1 = Mc.q9 := by kernel_rfl
theorem Ok.q76 (m : GvP) : (ze5 Tryz.prog (gv1 m) Ks.q76 Tryz.f56.ntmps [] (Tryz.f56.body.getD .skip) Dl.q76).1 = Mc.q76 := by kernel_rfl
theorem Ok.tree_below (m : GvP) : (ze5 Tryz.prog (gv1 m) Ks.tree_below Tryz.f57.ntmps [] (Tryz.f57.body.getD .skip) Dl.tree_below).1 = Mc.tree_below := by kernel_rfl
theorem Ok.q49 (m : GvP) : (ze5 Tryz.prog (gv1 m) Ks.q49 Tryz.f63.ntmps [] (Tryz.f63.body.getD .skip) Dl.q49).1 = Mc.q49 := by kernel_rfl
theorem Ok.q38 (m : GvP) : (ze5 Tryz.prog (gv1 m) Ks.q38 Tryz.f76.ntmps [] (Tryz.f76.body.getD .skip) Dl.q38).1 = Mc.q38 := by kernel_rfl
theorem Ok.q73 (m : GvP) : (ze5 Tryz.prog (gv1 m) Ks.q73 Tryz.f329.ntmps [] (Tryz.f329.body.getD .skip) Dl.q73).1 = Mc.q73 := by kernel_rfl
theorem Pure.q73 {m : GvP} {G : Gam} (hG : GamOK Tryz.prog (gv1 m) G) {F : List AV → Option AV} (hF : ∀ args r,F args = some r → wpM G Mc.q73 (zb0 Rs.q73 r) [] (za2 Ks.q73 args) []) : zd0 Tryz.prog (gv1 m) Fn.q73 F :=
 zc5 (by kernel_rfl) hG Tryz.func329 rfl (ks := Ks.q73) (rs := Rs.q73) (by kernel_rfl) (by kernel_rfl) (Ok.q73 m) hF
theorem Ok.q60 (m : GvP) : (ze5 Tryz.prog (gv1 m) Ks.q60 Tryz.f52.ntmps [] (Tryz.f52.body.getD .skip) Dl.q60).1 = Mc.q60 := by kernel_rfl
theorem Ok.q14 (m : GvP) : (ze5 Tryz.prog (gv1 m) Ks.q14 Tryz.f60.ntmps [] (Tryz.f60.body.getD .skip) Dl.q14).1 = Mc.q14 := by kernel_rfl
theorem Pure.q14 {m : GvP} {G : Gam} (hG : GamOK Tryz.prog (gv1 m) G) {F : List AV → Option AV} (hF : ∀ args r,F args = some r → wpM G Mc.q14 (zb0 Rs.q14 r) [] (za2 Ks.q14 args) []) : zd0 Tryz.prog (gv1 m) Fn.q14 F :=
 zc5 (by kernel_rfl) hG Tryz.func60 rfl (ks := Ks.q14) (rs := Rs.q14) (by kernel_rfl) (by kernel_rfl) (Ok.q14 m) hF
theorem Ok.q10 (m : GvP) : (ze5 Tryz.prog (gv1 m) Ks.q10 Tryz.f66.ntmps [] (Tryz.f66.body.getD .skip) Dl.q10).1 = Mc.q10 := by kernel_rfl
theorem Ok.tree_Path_1 (m : GvP) : (ze5 Tryz.prog (gv1 m) Ks.tree_Path_1 Tryz.f67.ntmps [] (Tryz.f67.body.getD .skip) Dl.tree_Path_1).1 = Mc.tree_Path_1 := by kernel_rfl
theorem Ok.tree_part (m : GvP) : (ze5 Tryz.prog (gv1 m) Ks.tree_part Tryz.f68.ntmps [] (Tryz.f68.body.getD .skip) Dl.tree_part).1 = Mc.tree_part := by kernel_rfl
theorem Ok.q50 (m : GvP) : (ze5 Tryz.prog (gv1 m) Ks.q50 Tryz.f74.ntmps [] (Tryz.f74.body.getD .skip) Dl.q50).1 = Mc.q50 := by kernel_rfl
theorem Ok.q51 (m : GvP) : (ze5 Tryz.prog (gv1 m) Ks.q51 Tryz.f75.ntmps [] (Tryz.f75.body.getD .skip) Dl.q51).1 = Mc.q51 := by kernel_rfl
theorem Ok.q11 (m : GvP) : (ze5 Tryz.prog (gv1 m) Ks.q11 Tryz.f88.ntmps [] (Tryz.f88.body.getD .skip) Dl.q11).1 = Mc.q11 := by kernel_rfl
theorem Ok.q41 (m : GvP) : (ze5 Tryz.prog (gv1 m) Ks.q41 Tryz.f101.ntmps [] (Tryz.f101.body.getD .skip) Dl.q41).1 = Mc.q41 := by kernel_rfl
theorem Pure.q41 {m : GvP} {G : Gam} (hG : GamOK Tryz.prog (gv1 m) G) {F : List AV → Option AV} (hF : ∀ args r,F args = some r → wpM G Mc.q41 (zb0 Rs.q41 r) [] (za2 Ks.q41 args) []) : zd0 Tryz.prog (gv1 m) Fn.q41 F :=
 zc5 (by kernel_rfl) hG Tryz.func101 rfl (ks := Ks.q41) (rs := Rs.q41) (by kernel_rfl) (by kernel_rfl) (Ok.q41 m) hF
theorem Ok.q16 (m : GvP) : (ze5 Tryz.prog (gv1 m) Ks.q16 Tryz.f104.ntmps [] (Tryz.f104.body.getD .skip) Dl.q16).1 = Mc.q16 := by kernel_rfl
theorem Pure.q16 {m : GvP} {G : Gam} (hG : GamOK Tryz.prog (gv1 m) G) {F : List AV → Option AV} (hF : ∀ args r,F args = some r → wpM G Mc.q16 (zb0 Rs.q16 r) [] (za2 Ks.q16 args) []) : zd0 Tryz.prog (gv1 m) Fn.q16 F :=
 zc5 (by kernel_rfl) hG Tryz.func104 rfl (ks := Ks.q16) (rs := Rs.q16) (by kernel_rfl) (by kernel_rfl) (Ok.q16 m) hF
theorem Ok.q13 (m : GvP) : (ze5 Tryz.prog (gv1 m) Ks.q13 Tryz.f106.ntmps [] (Tryz.f106.body.getD .skip) Dl.q13).1 = Mc.q13 := by kernel_rfl
theorem Ok.q31 (m : GvP) : (ze5 Tryz.prog (gv1 m) Ks.q31 Tryz.f107.ntmps [] (Tryz.f107.body.getD .skip) Dl.q31).1 = Mc.q31 := by kernel_rfl
theorem Ok.tree_part_1 (m : GvP) : (ze5 Tryz.prog (gv1 m) Ks.tree_part_1 Tryz.f108.ntmps [] (Tryz.f108.body.getD .skip) Dl.tree_part_1).1 = Mc.tree_part_1 := by kernel_rfl
theorem Ok.q42 (m : GvP) : (ze5 Tryz.prog (gv1 m) Ks.q42 Tryz.f135.ntmps [] (Tryz.f135.body.getD .skip) Dl.q42).1 = Mc.q42 := by kernel_rfl
theorem Ok.q43 (m : GvP) : (ze5 Tryz.prog (gv1 m) Ks.q43 Tryz.f169.ntmps [] (Tryz.f169.body.getD .skip) Dl.q43).1 = Mc.q43 := by kernel_rfl
theorem Ok.digest_Sum (m : GvP) : (ze5 Tryz.prog (gv1 m) Ks.digest_Sum Tryz.f73.ntmps [] (Tryz.f73.body.getD .skip) Dl.digest_Sum).1 = Mc.digest_Sum := by kernel_rfl
theorem Pure.digest_Sum {m : GvP} {G : Gam} (hG : GamOK Tryz.prog (gv1 m) G) {F : List AV → Option AV} (hF : ∀ args r,F args = some r → wpM G Mc.digest_Sum (zb0 Rs.digest_Sum r) [] (za2 Ks.digest_Sum args) []) : zd0 Tryz.prog (gv1 m) Fn.digest_Sum F :=
 zc5 (by kernel_rfl) hG Tryz.func73 rfl (ks := Ks.digest_Sum) (rs := Rs.digest_Sum) (by kernel_rfl) (by kernel_rfl) (Ok.digest_Sum m) hF
theorem Ok.digest_New (m : GvP) : (ze5 Tryz.prog (gv1 m) Ks.digest_New Tryz.f114.ntmps [] (Tryz.f114.body.getD .skip) Dl.digest_New).1 = Mc.digest_New := by kernel_rfl
theorem Gen.digest_New {m : GvP} {G : Gam} (hG : GamOK Tryz.prog (gv1 m) G) {F : List AV → Heap → Option (AV × Heap)} (hF : ∀ args h r h',F args h = some (r,h') → wpM G Mc.digest_New (genQ Rs.digest_New r h') [] (za2 Ks.digest_New args) h) : zl3 Tryz.prog (gv1 m) Fn.digest_New F :=
 zH5 (by kernel_rfl) hG Tryz.func114 rfl (ks := Ks.digest_New) (rs := Rs.digest_New) (by kernel_rfl) (by kernel_rfl) (Ok.digest_New m) hF
theorem Ok.q26 (m : GvP) : (ze5 Tryz.prog (gv1 m) Ks.q26 Tryz.f115.ntmps Ow.__digest_Sponge__Write (Tryz.f115.body.getD .skip) Dl.q26).1 = Mc.q26 := by kernel_rfl
theorem Gen.q26 {m : GvP} {G : Gam} (hG : GamOK Tryz.prog (gv1 m) G) {F : List AV → Heap → Option (AV × Heap)} (hF : ∀ args h r h',F args h = some (r,h') → wpM G Mc.q26 (genQ Rs.q26 r h') [] (za2 Ks.q26 args) h) : zl3 Tryz.prog (gv1 m) Fn.q26 F :=
 zH5 (by kernel_rfl) hG Tryz.func115 rfl (ks := Ks.q26) (rs := Rs.q26) (by kernel_rfl) (by kernel_rfl) (Ok.q26 m) hF
theorem Ok.q32 (m : GvP) : (ze5 Tryz.prog (gv1 m) Ks.q32 Tryz.f116.ntmps [] (Tryz.f116.body.getD .skip) Dl.q32).1 = Mc.q32 := by kernel_rfl
theorem Gen.q32 {m : GvP} {G : Gam} (hG : GamOK Tryz.prog (gv1 m) G) {F : List AV → Heap → Option (AV × Heap)} (hF : ∀ args h r h',F args h = some (r,h') → wpM G Mc.q32 (genQ Rs.q32 r h') [] (za2 Ks.q32 args) h) : zl3 Tryz.prog (gv1 m) Fn.q32 F :=
 zH5 (by kernel_rfl) hG Tryz.func116 rfl (ks := Ks.q32) (rs := Rs.q32) (by kernel_rfl) (by kernel_rfl) (Ok.q32 m) hF
theorem Ok.q25 (m : GvP) : (ze5 Tryz.prog (gv1 m) Ks.q25 Tryz.f142.ntmps [] (Tryz.f142.body.getD .skip) Dl.q25).1 = Mc.q25 := by kernel_rfl
theorem Gen.q25 {m : GvP} {G : Gam} (hG : GamOK Tryz.prog (gv1 m) G) {F : List AV → Heap → Option (AV × Heap)} (hF : ∀ args h r h',F args h = some (r,h') → wpM G Mc.q25 (genQ Rs.q25 r h') [] (za2 Ks.q25 args) h) : zl3 Tryz.prog (gv1 m) Fn.q25 F :=
 zH5 (by kernel_rfl) hG Tryz.func142 rfl (ks := Ks.q25) (rs := Rs.q25) (by kernel_rfl) (by kernel_rfl) (Ok.q25 m) hF
theorem Ok.q27 (m : GvP) : (ze5 Tryz.prog (gv1 m) Ks.q27 Tryz.f143.ntmps [] (Tryz.f143.body.getD .skip) Dl.q27).1 = Mc.q27 := by kernel_rfl
theorem Gen.q27 {m : GvP} {G : Gam} (hG : GamOK Tryz.prog (gv1 m) G) {F : List AV → Heap → Option (AV × Heap)} (hF : ∀ args h r h',F args h = some (r,h') → wpM G Mc.q27 (genQ Rs.q27 r h') [] (za2 Ks.q27 args) h) : zl3 Tryz.prog (gv1 m) Fn.q27 F :=
 zH5 (by kernel_rfl) hG Tryz.func143 rfl (ks := Ks.q27) (rs := Rs.q27) (by kernel_rfl) (by kernel_rfl) (Ok.q27 m) hF
theorem Ok.q66 (m : GvP) : (ze5 Tryz.prog (gv1 m) Ks.q66 Tryz.f175.ntmps [] (Tryz.f175.body.getD .skip) Dl.q66).1 = Mc.q66 := by kernel_rfl
theorem Pure.q66 {m : GvP} {G : Gam} (hG : GamOK Tryz.prog (gv1 m) G) {F : List AV → Option AV} (hF : ∀ args r,F args = some r → wpM G Mc.q66 (zb0 Rs.q66 r) [] (za2 Ks.q66 args) []) : zd0 Tryz.prog (gv1 m) Fn.q66 F :=
 zc5 (by kernel_rfl) hG Tryz.func175 rfl (ks := Ks.q66) (rs := Rs.q66) (by kernel_rfl) (by kernel_rfl) (Ok.q66 m) hF
theorem Ok.q67 (m : GvP) : (ze5 Tryz.prog (gv1 m) Ks.q67 Tryz.f200.ntmps [] (Tryz.f200.body.getD .skip) Dl.q67).1 = Mc.q67 := by kernel_rfl
theorem Pure.q67 {m : GvP} {G : Gam} (hG : GamOK Tryz.prog (gv1 m) G) {F : List AV → Option AV} (hF : ∀ args r,F args = some r → wpM G Mc.q67 (zb0 Rs.q67 r) [] (za2 Ks.q67 args) []) : zd0 Tryz.prog (gv1 m) Fn.q67 F :=
 zc5 (by kernel_rfl) hG Tryz.func200 rfl (ks := Ks.q67) (rs := Rs.q67) (by kernel_rfl) (by kernel_rfl) (Ok.q67 m) hF
theorem Ok.q56 (m : GvP) : (ze5 Tryz.prog (gv1 m) Ks.q56 Tryz.f201.ntmps [] (Tryz.f201.body.getD .skip) Dl.q56).1 = Mc.q56 := by kernel_rfl
theorem Pure.q56 {m : GvP} {G : Gam} (hG : GamOK Tryz.prog (gv1 m) G) {F : List AV → Option AV} (hF : ∀ args r,F args = some r → wpM G Mc.q56 (zb0 Rs.q56 r) [] (za2 Ks.q56 args) []) : zd0 Tryz.prog (gv1 m) Fn.q56 F :=
 zc5 (by kernel_rfl) hG Tryz.func201 rfl (ks := Ks.q56) (rs := Rs.q56) (by kernel_rfl) (by kernel_rfl) (Ok.q56 m) hF
theorem Ok.q80 (m : GvP) : (ze5 Tryz.prog (gv1 m) Ks.q80 Tryz.f202.ntmps [] (Tryz.f202.body.getD .skip) Dl.q80).1 = Mc.q80 := by kernel_rfl
theorem Pure.q80 {m : GvP} {G : Gam} (hG : GamOK Tryz.prog (gv1 m) G) {F : List AV → Option AV} (hF : ∀ args r,F args = some r → wpM G Mc.q80 (zb0 Rs.q80 r) [] (za2 Ks.q80 args) []) : zd0 Tryz.prog (gv1 m) Fn.q80 F :=
 zc5 (by kernel_rfl) hG Tryz.func202 rfl (ks := Ks.q80) (rs := Rs.q80) (by kernel_rfl) (by kernel_rfl) (Ok.q80 m) hF
theorem Ok.q30 (m : GvP) : (ze5 Tryz.prog (gv1 m) Ks.q30 Tryz.f232.ntmps [] (Tryz.f232.body.getD .skip) Dl.q30).1 = Mc.q30 := by kernel_rfl
theorem Pure.q30 {m : GvP} {G : Gam} (hG : GamOK Tryz.prog (gv1 m) G) {F : List AV → Option AV} (hF : ∀ args r,F args = some r → wpM G Mc.q30 (zb0 Rs.q30 r) [] (za2 Ks.q30 args) []) : zd0 Tryz.prog (gv1 m) Fn.q30 F :=
 zc5 (by kernel_rfl) hG Tryz.func232 rfl (ks := Ks.q30) (rs := Rs.q30) (by kernel_rfl) (by kernel_rfl) (Ok.q30 m) hF
end Go.Proofs.YtopiadllkglamaaGreatDoor
