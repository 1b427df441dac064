/- The resolved functions are the functions of the program (law 46). -/
import Derived.Test.YtaadifodgahnjaaGreatDoorZRecMc
import Derived.Test.YtaadifodgahnjaaGreatDoorZAm9
import Derived.Test.YtaadifodgahnjaaGreatDoorZAm8
import Derived.Test.YtaadifodgahnjaaGreatDoorChecked
import Derived.KernelRfl
import Derived.Lib.ItoaNum
namespace Go.Proofs.YtaadifodgahnjaaGreatDoor
structure GvP where
 m : Int
 t4 : TypeId
 p4 : Value
 t5 : TypeId
 p5 : Value
def gv1 (m : GvP) : Gv := ⟨fun g => if g = 0 then some [.int .i64 m.m] else none,fun g => if g = 3 then some (Lib.pow10Tab.map fun z => Value.int .u64 z) else if g = 1 then some [.iface m.t4 m.p4] else if g = 2 then some [.iface m.t5 m.p5] else none⟩
theorem Ok.q25 (m : GvP) : (compC Tryz.prog (gv1 m) Ks.q25 Tryz.f5.ntmps [] (Tryz.f5.body.getD .skip) Dl.q25).1 = Mc.q25 := by kernel_rfl
theorem Pure.q25 {m : GvP} {G : Gam} (hG : GamOK Tryz.prog (gv1 m) G) {F : List AV → Option AV} (hF : ∀ args r,F args = some r → wpM G Mc.q25 (pureQ Rs.q25 r) [] (frInit Ks.q25 args) []) : PureOK Tryz.prog (gv1 m) Fn.q25 F :=
 pure_of (by kernel_rfl) hG Tryz.func5 rfl (ks := Ks.q25) (rs := Rs.q25) (by kernel_rfl) (by kernel_rfl) (Ok.q25 m) hF
theorem Ok.bundle_Read (m : GvP) : (compC Tryz.prog (gv1 m) Ks.bundle_Read Tryz.f13.ntmps [] (Tryz.f13.body.getD .skip) Dl.bundle_Read).1 = Mc.bundle_Read := by kernel_rfl
theorem Pure.bundle_Read {m : GvP} {G : Gam} (hG : GamOK Tryz.prog (gv1 m) G) {F : List AV → Option AV} (hF : ∀ args r,F args = some r → wpM G Mc.bundle_Read (pureQ Rs.bundle_Read r) [] (frInit Ks.bundle_Read args) []) : PureOK Tryz.prog (gv1 m) Fn.bundle_Read F :=
 pure_of (by kernel_rfl) hG Tryz.func13 rfl (ks := Ks.bundle_Read) (rs := Rs.bundle_Read) (by kernel_rfl) (by kernel_rfl) (Ok.bundle_Read m) hF
theorem Ok.q56 (m : GvP) : (compC Tryz.prog (gv1 m) Ks.q56 Tryz.f14.ntmps [] (Tryz.f14.body.getD .skip) Dl.q56).1 = Mc.q56 := by kernel_rfl
theorem Pure.q56 {m : GvP} {G : Gam} (hG : GamOK Tryz.prog (gv1 m) G) {F : List AV → Option AV} (hF : ∀ args r,F args = some r → wpM G Mc.q56 (pureQ Rs.q56 r) [] (frInit Ks.q56 args) []) : PureOK Tryz.prog (gv1 m) Fn.q56 F :=
 pure_of (by kernel_rfl) hG Tryz.func14 rfl (ks := Ks.q56) (rs := Rs.q56) (by kernel_rfl) (by kernel_rfl) (Ok.q56 m) hF
theorem Ok.q68 (m : GvP) : (compC Tryz.prog (gv1 m) Ks.q68 Tryz.f27.ntmps [] (Tryz.f27.body.getD .skip) Dl.q68).1 = Mc.q68 := by kernel_rfl
theorem Ok.q39 (m : GvP) : (compC Tryz.prog (gv1 m) Ks.q39 Tryz.f31.ntmps [] (Tryz.f31.body.getD .skip) Dl.q39).1 = Mc.q39 := by kernel_rfl
theorem Ok.bundle_rows (m : GvP) : (compC Tryz.prog (gv1 m) Ks.bundle_rows Tryz.f33.ntmps [] (Tryz.f33.body.getD .skip) Dl.bundle_rows).1 = Mc.bundle_rows := by kernel_rfl
theorem Pure.bundle_rows {m : GvP} {G : Gam} (hG : GamOK Tryz.prog (gv1 m) G) {F : List AV → Option AV} (hF : ∀ args r,F args = some r → wpM G Mc.bundle_rows (pureQ Rs.bundle_rows r) [] (frInit Ks.bundle_rows args) []) : PureOK Tryz.prog (gv1 m) Fn.bundle_rows F :=
 pure_of (by kernel_rfl) hG Tryz.func33 rfl (ks := Ks.bundle_rows) (rs := Rs.bundle_rows) (by kernel_rfl) (by kernel_rfl) (Ok.bundle_rows m) hF
theorem Ok.q45 (m : GvP) : (compC Tryz.prog (gv1 m) Ks.q45 Tryz.f37.ntmps [] (Tryz.f37.body.getD .skip) Dl.q45).1 = Mc.q45 := by kernel_rfl
theorem Pure.q45 {m : GvP} {G : Gam} (hG : GamOK Tryz.prog (gv1 m) G) {F : List AV → Option AV} (hF : ∀ args r,F args = some r → wpM G Mc.q45 (pureQ Rs.q45 r) [] (frInit Ks.q45 args) []) : PureOK Tryz.prog (gv1 m) Fn.q45 F :=
 pure_of (by kernel_rfl) hG Tryz.func37 rfl (ks := Ks.q45) (rs := Rs.q45) (by kernel_rfl) (by kernel_rfl) (Ok.q45 m) hF
theorem Ok.q69 (m : GvP) : (compC Tryz.prog (gv1 m) Ks.q69 Tryz.f34.ntmps [] (Tryz.f34.body.getD .skip) Dl.q69).1 = Mc.q69 := by kernel_rfl
theorem Pure.q69 {m : GvP} {G : Gam} (hG : GamOK Tryz.prog (gv1 m) G) {F : List AV → Option AV} (hF : ∀ args r,F args = some r → wpM G Mc.q69 (pureQ Rs.q69 r) [] (frInit Ks.q69 args) []) : PureOK Tryz.prog (gv1 m) Fn.q69 F :=
 pure_of (by kernel_rfl) hG Tryz.func34 rfl (ks := Ks.q69) (rs := Rs.q69) (by kernel_rfl) (by kernel_rfl) (Ok.q69 m) hF
theorem Ok.tree_Path (m : GvP) : (compC Tryz.prog (gv1 m) Ks.tree_Path Tryz.f35.ntmps [] (Tryz.f35.body.getD .skip) Dl.tree_Path).1 = Mc.tree_Path := by kernel_rfl
theorem Pure.tree_Path {m : GvP} {G : Gam} (hG : GamOK Tryz.prog (gv1 m) G) {F : List AV → Option AV} (hF : ∀ args r,F args = some r → wpM G Mc.tree_Path (pureQ Rs.tree_Path r) [] (frInit Ks.tree_Path args) []) : PureOK Tryz.prog (gv1 m) Fn.tree_Path F :=
 pure_of (by kernel_rfl) hG Tryz.func35 rfl (ks := Ks.tree_Path) (rs := Rs.tree_Path) (by kernel_rfl) (by kernel_rfl) (Ok.tree_Path m) hF
theorem Ok.bundle_file (m : GvP) : (compC Tryz.prog (gv1 m) Ks.bundle_file Tryz.f36.ntmps [] (Tryz.f36.body.getD .skip) Dl.bundle_file).1 = Mc.bundle_file := by kernel_rfl
theorem Pure.bundle_file {m : GvP} {G : Gam} (hG : GamOK Tryz.prog (gv1 m) G) {F : List AV → Option AV} (hF : ∀ args r,F args = some r → wpM G Mc.bundle_file (pureQ Rs.bundle_file r) [] (frInit Ks.bundle_file args) []) : PureOK Tryz.prog (gv1 m) Fn.bundle_file F :=
 pure_of (by kernel_rfl) hG Tryz.func36 rfl (ks := Ks.bundle_file) (rs := Rs.bundle_file) (by kernel_rfl) (by kernel_rfl) (Ok.bundle_file m) hF
theorem Ok.q57 (m : GvP) : (compC Tryz.prog (gv1 m) Ks.q57 Tryz.f38.ntmps [] (Tryz.f38.body.getD .skip) Dl.q57).1 = Mc.q57 := by kernel_rfl
theorem Pure.q57 {m : GvP} {G : Gam} (hG : GamOK Tryz.prog (gv1 m) G) {F : List AV → Option AV} (hF : ∀ args r,F args = some r → wpM G Mc.q57 (pureQ Rs.q57 r) [] (frInit Ks.q57 args) []) : PureOK Tryz.prog (gv1 m) Fn.q57 F :=
 pure_of (by kernel_rfl) hG Tryz.func38 rfl (ks := Ks.q57) (rs := Rs.q57) (by kernel_rfl) (by kernel_rfl) (Ok.q57 m) hF
theorem Ok.q46 (m : GvP) : (compC Tryz.prog (gv1 m) Ks.q46 Tryz.f39.ntmps [] (Tryz.f39.body.getD .skip) Dl.q46).1 = Mc.q46 := by kernel_rfl
theorem Pure.q46 {m : GvP} {G : Gam} (hG : GamOK Tryz.prog (gv1 m) G) {F : List AV → Option AV} (hF : ∀ args r,F args = some r → wpM G Mc.q46 (pureQ Rs.q46 r) [] (frInit Ks.q46 args) []) : PureOK Tryz.prog (gv1 m) Fn.q46 F :=
 pure_of (by kernel_rfl) hG Tryz.func39 rfl (ks := Ks.q46) (rs := Rs.q46) (by kernel_rfl) (by kernel_rfl) (Ok.q46 m) hF
theorem Ok.q58 (m : GvP) : (compC Tryz.prog (gv1 m) Ks.q58 Tryz.f40.ntmps [] (Tryz.f40.body.getD .skip) Dl.q58).1 = Mc.q58 := by kernel_rfl
theorem Pure.q58 {m : GvP} {G : Gam} (hG : GamOK Tryz.prog (gv1 m) G) {F : List AV → Option AV} (hF : ∀ args r,F args = some r → wpM G Mc.q58 (pureQ Rs.q58 r) [] (frInit Ks.q58 args) []) : PureOK Tryz.prog (gv1 m) Fn.q58 F :=
 pure_of (by kernel_rfl) hG Tryz.func40 rfl (ks := Ks.q58) (rs := Rs.q58) (by kernel_rfl) (by kernel_rfl) (Ok.q58 m) hF
theorem Ok.q64 (m : GvP) : (compC Tryz.prog (gv1 m) Ks.q64 Tryz.f54.ntmps [] (Tryz.f54.body.getD .skip) Dl.q64).1 = Mc.q64 := by kernel_rfl
theorem Pure.q64 {m : GvP} {G : Gam} (hG : GamOK Tryz.prog (gv1 m) G) {F : List AV → Option AV} (hF : ∀ args r,F args = some r → wpM G Mc.q64 (pureQ Rs.q64 r) [] (frInit Ks.q64 args) []) : PureOK Tryz.prog (gv1 m) Fn.q64 F :=
 pure_of (by kernel_rfl) hG Tryz.func54 rfl (ks := Ks.q64) (rs := Rs.q64) (by kernel_rfl) (by kernel_rfl) (Ok.q64 m) hF
theorem Ok.q59 (m : GvP) : (compC Tryz.prog (gv1 m) Ks.q59 Tryz.f70.ntmps [] (Tryz.f70.body.getD .skip) Dl.q59).1 = Mc.q59 := by kernel_rfl
theorem Pure.q59 {m : GvP} {G : Gam} (hG : GamOK Tryz.prog (gv1 m) G) {F : List AV → Option AV} (hF : ∀ args r,F args = some r → wpM G Mc.q59 (pureQ Rs.q59 r) [] (frInit Ks.q59 args) []) : PureOK Tryz.prog (gv1 m) Fn.q59 F :=
 pure_of (by kernel_rfl) hG Tryz.func70 rfl (ks := Ks.q59) (rs := Rs.q59) (by kernel_rfl) (by kernel_rfl) (Ok.q59 m) hF
theorem Ok.q14 (m : GvP) : (compC Tryz.prog (gv1 m) Ks.q14 Tryz.f61.ntmps [] (Tryz.f61.body.getD .skip) Dl.q14).1 = Mc.q14 := by kernel_rfl
theorem Pure.q14 {m : GvP} {G : Gam} (hG : GamOK Tryz.prog (gv1 m) G) {F : List AV → Option AV} (hF : ∀ args r,F args = some r → wpM G Mc.q14 (pureQ Rs.q14 r) [] (frInit Ks.q14 args) []) : PureOK Tryz.prog (gv1 m) Fn.q14 F :=
 pure_of (by kernel_rfl) hG Tryz.func61 rfl (ks := Ks.q14) (rs := Rs.q14) (by kernel_rfl) (by kernel_rfl) (Ok.q14 m) hF
theorem Ok.q49 (m : GvP) : (compC Tryz.prog (gv1 m) Ks.q49 Tryz.f67.ntmps [] (Tryz.f67.body.getD .skip) Dl.q49).1 = Mc.q49 := by kernel_rfl
theorem Pure.q49 {m : GvP} {G : Gam} (hG : GamOK Tryz.prog (gv1 m) G) {F : List AV → Option AV} (hF : ∀ args r,F args = some r → wpM G Mc.q49 (pureQ Rs.q49 r) [] (frInit Ks.q49 args) []) : PureOK Tryz.prog (gv1 m) Fn.q49 F :=
 pure_of (by kernel_rfl) hG Tryz.func67 rfl (ks := Ks.q49) (rs := Rs.q49) (by kernel_rfl) (by kernel_rfl) (Ok.q49 m) hF
theorem Ok.q61 (m : GvP) : (compC Tryz.prog (gv1 m) Ks.q61 Tryz.f68.ntmps [] (Tryz.f68.body.getD .skip) Dl.q61).1 = Mc.q61 := by kernel_rfl
theorem Pure.q61 {m : GvP} {G : Gam} (hG : GamOK Tryz.prog (gv1 m) G) {F : List AV → Option AV} (hF : ∀ args r,F args = some r → wpM G Mc.q61 (pureQ Rs.q61 r) [] (frInit Ks.q61 args) []) : PureOK Tryz.prog (gv1 m) Fn.q61 F :=
 pure_of (by kernel_rfl) hG Tryz.func68 rfl (ks := Ks.q61) (rs := Rs.q61) (by kernel_rfl) (by kernel_rfl) (Ok.q61 m) hF
theorem Ok.q10 (m : GvP) : (compC Tryz.prog (gv1 m) Ks.q10 Tryz.f63.ntmps [] (Tryz.f63.body.getD .skip) Dl.q10).1 = Mc.q10 := by kernel_rfl
theorem Look.q10 {m : GvP} {G : Gam} (hG : GamOK Tryz.prog (gv1 m) G) {F : List AV → Heap → Option AV} (hF : ∀ args h r,F args h = some r → wpM G Mc.q10 (lookQ Rs.q10 r h) [] (frInit Ks.q10 args) h) : GenOK Tryz.prog (gv1 m) Fn.q10 (lookF F) :=
 look_of (by kernel_rfl) hG Tryz.func63 rfl (ks := Ks.q10) (rs := Rs.q10) (by kernel_rfl) (by kernel_rfl) (Ok.q10 m) hF
theorem Ok.tree_Path_1 (m : GvP) : (compC Tryz.prog (gv1 m) Ks.tree_Path_1 Tryz.f64.ntmps [] (Tryz.f64.body.getD .skip) Dl.tree_Path_1).1 = Mc.tree_Path_1 := by kernel_rfl
theorem Pure.tree_Path_1 {m : GvP} {G : Gam} (hG : GamOK Tryz.prog (gv1 m) G) {F : List AV → Option AV} (hF : ∀ args r,F args = some r → wpM G Mc.tree_Path_1 (pureQ Rs.tree_Path_1 r) [] (frInit Ks.tree_Path_1 args) []) : PureOK Tryz.prog (gv1 m) Fn.tree_Path_1 F :=
 pure_of (by kernel_rfl) hG Tryz.func64 rfl (ks := Ks.tree_Path_1) (rs := Rs.tree_Path_1) (by kernel_rfl) (by kernel_rfl) (Ok.tree_Path_1 m) hF
theorem Ok.tree_part (m : GvP) : (compC Tryz.prog (gv1 m) Ks.tree_part Tryz.f65.ntmps [] (Tryz.f65.body.getD .skip) Dl.tree_part).1 = Mc.tree_part := by kernel_rfl
theorem Pure.tree_part {m : GvP} {G : Gam} (hG : GamOK Tryz.prog (gv1 m) G) {F : List AV → Option AV} (hF : ∀ args r,F args = some r → wpM G Mc.tree_part (pureQ Rs.tree_part r) [] (frInit Ks.tree_part args) []) : PureOK Tryz.prog (gv1 m) Fn.tree_part F :=
 pure_of (by kernel_rfl) hG Tryz.func65 rfl (ks := Ks.tree_part) (rs := Rs.tree_part) (by kernel_rfl) (by kernel_rfl) (Ok.tree_part m) hF
theorem Ok.q50 (m : GvP) : (compC Tryz.prog (gv1 m) Ks.q50 Tryz.f69.ntmps [] (Tryz.f69.body.getD .skip) Dl.q50).1 = Mc.q50 := by kernel_rfl
theorem Pure.q50 {m : GvP} {G : Gam} (hG : GamOK Tryz.prog (gv1 m) G) {F : List AV → Option AV} (hF : ∀ args r,F args = some r → wpM G Mc.q50 (pureQ Rs.q50 r) [] (frInit Ks.q50 args) []) : PureOK Tryz.prog (gv1 m) Fn.q50 F :=
 pure_of (by kernel_rfl) hG Tryz.func69 rfl (ks := Ks.q50) (rs := Rs.q50) (by kernel_rfl) (by kernel_rfl) (Ok.q50 m) hF
theorem Ok.q51 (m : GvP) : (compC Tryz.prog (gv1 m) Ks.q51 Tryz.f71.ntmps [] (Tryz.f71.body.getD .skip) Dl.q51).1 = Mc.q51 := by kernel_rfl
theorem Pure.q51 {m : GvP} {G : Gam} (hG : GamOK Tryz.prog (gv1 m) G) {F : List AV → Option AV} (hF : ∀ args r,F args = some r → wpM G Mc.q51 (pureQ Rs.q51 r) [] (frInit Ks.q51 args) []) : PureOK Tryz.prog (gv1 m) Fn.q51 F :=
 pure_of (by kernel_rfl) hG Tryz.func71 rfl (ks := Ks.q51) (rs := Rs.q51) (by kernel_rfl) (by kernel_rfl) (Ok.q51 m) hF
theorem Ok.q41 (m : GvP) : (compC Tryz.prog (gv1 m) Ks.q41 Tryz.f90.ntmps [] (Tryz.f90.body.getD .skip) Dl.q41).1 = Mc.q41 := by kernel_rfl
theorem Pure.q41 {m : GvP} {G : Gam} (hG : GamOK Tryz.prog (gv1 m) G) {F : List AV → Option AV} (hF : ∀ args r,F args = some r → wpM G Mc.q41 (pureQ Rs.q41 r) [] (frInit Ks.q41 args) []) : PureOK Tryz.prog (gv1 m) Fn.q41 F :=
 pure_of (by kernel_rfl) hG Tryz.func90 rfl (ks := Ks.q41) (rs := Rs.q41) (by kernel_rfl) (by kernel_rfl) (Ok.q41 m) hF
theorem Ok.q16 (m : GvP) : (compC Tryz.prog (gv1 m) Ks.q16 Tryz.f94.ntmps [] (Tryz.f94.body.getD .skip) Dl.q16).1 = Mc.q16 := by kernel_rfl
theorem Pure.q16 {m : GvP} {G : Gam} (hG : GamOK Tryz.prog (gv1 m) G) {F : List AV → Option AV} (hF : ∀ args r,F args = some r → wpM G Mc.q16 (pureQ Rs.q16 r) [] (frInit Ks.q16 args) []) : PureOK Tryz.prog (gv1 m) Fn.q16 F :=
 pure_of (by kernel_rfl) hG Tryz.func94 rfl (ks := Ks.q16) (rs := Rs.q16) (by kernel_rfl) (by kernel_rfl) (Ok.q16 m) hF
theorem Ok.q13 (m : GvP) : (compC Tryz.prog (gv1 m) Ks.q13 Tryz.f96.ntmps [] (Tryz.f96.body.getD .skip) Dl.q13).1 = Mc.q13 := by kernel_rfl
theorem Look.q13 {m : GvP} {G : Gam} (hG : GamOK Tryz.prog (gv1 m) G) {F : List AV → Heap → Option AV} (hF : ∀ args h r,F args h = some r → wpM G Mc.q13 (lookQ Rs.q13 r h) [] (frInit Ks.q13 args) h) : GenOK Tryz.prog (gv1 m) Fn.q13 (lookF F) :=
 look_of (by kernel_rfl) hG Tryz.func96 rfl (ks := Ks.q13) (rs := Rs.q13) (by kernel_rfl) (by kernel_rfl) (Ok.q13 m) hF
theorem Ok.q35 (m : GvP) : (compC Tryz.prog (gv1 m) Ks.q35 Tryz.f97.ntmps [] (Tryz.f97.body.getD .skip) Dl.q35).1 = Mc.q35 := by kernel_rfl
theorem Look.q35 {m : GvP} {G : Gam} (hG : GamOK Tryz.prog (gv1 m) G) {F : List AV → Heap → Option AV} (hF : ∀ args h r,F args h = some r → wpM G Mc.q35 (lookQ Rs.q35 r h) [] (frInit Ks.q35 args) h) : GenOK Tryz.prog (gv1 m) Fn.q35 (lookF F) :=
 look_of (by kernel_rfl) hG Tryz.func97 rfl (ks := Ks.q35) (rs := Rs.q35) (by kernel_rfl) (by kernel_rfl) (Ok.q35 m) hF
theorem Ok.tree_part_1 (m : GvP) : (compC Tryz.prog (gv1 m) Ks.tree_part_1 Tryz.f98.ntmps [] (Tryz.f98.body.getD .skip) Dl.tree_part_1).1 = Mc.tree_part_1 := by kernel_rfl
theorem Pure.tree_part_1 {m : GvP} {G : Gam} (hG : GamOK Tryz.prog (gv1 m) G) {F : List AV → Option AV} (hF : ∀ args r,F args = some r → wpM G Mc.tree_part_1 (pureQ Rs.tree_part_1 r) [] (frInit Ks.tree_part_1 args) []) : PureOK Tryz.prog (gv1 m) Fn.tree_part_1 F :=
 pure_of (by kernel_rfl) hG Tryz.func98 rfl (ks := Ks.tree_part_1) (rs := Rs.tree_part_1) (by kernel_rfl) (by kernel_rfl) (Ok.tree_part_1 m) hF
theorem Ok.q42 (m : GvP) : (compC Tryz.prog (gv1 m) Ks.q42 Tryz.f124.ntmps [] (Tryz.f124.body.getD .skip) Dl.q42).1 = Mc.q42 := by kernel_rfl
theorem Look.q42 {m : GvP} {G : Gam} (hG : GamOK Tryz.prog (gv1 m) G) {F : List AV → Heap → Option AV} (hF : ∀ args h r,F args h = some r → wpM G Mc.q42 (lookQ Rs.q42 r h) [] (frInit Ks.q42 args) h) : GenOK Tryz.prog (gv1 m) Fn.q42 (lookF F) :=
 look_of (by kernel_rfl) hG Tryz.func124 rfl (ks := Ks.q42) (rs := Rs.q42) (by kernel_rfl) (by kernel_rfl) (Ok.q42 m) hF
theorem Ok.q43 (m : GvP) : (compC Tryz.prog (gv1 m) Ks.q43 Tryz.f159.ntmps [] (Tryz.f159.body.getD .skip) Dl.q43).1 = Mc.q43 := by kernel_rfl
theorem Look.q43 {m : GvP} {G : Gam} (hG : GamOK Tryz.prog (gv1 m) G) {F : List AV → Heap → Option AV} (hF : ∀ args h r,F args h = some r → wpM G Mc.q43 (lookQ Rs.q43 r h) [] (frInit Ks.q43 args) h) : GenOK Tryz.prog (gv1 m) Fn.q43 (lookF F) :=
 look_of (by kernel_rfl) hG Tryz.func159 rfl (ks := Ks.q43) (rs := Rs.q43) (by kernel_rfl) (by kernel_rfl) (Ok.q43 m) hF
theorem Ok.digest_Sum (m : GvP) : (compC Tryz.prog (gv1 m) Ks.digest_Sum Tryz.f173.ntmps [] (Tryz.f173.body.getD .skip) Dl.digest_Sum).1 = Mc.digest_Sum := by kernel_rfl
theorem Pure.digest_Sum {m : GvP} {G : Gam} (hG : GamOK Tryz.prog (gv1 m) G) {F : List AV → Option AV} (hF : ∀ args r,F args = some r → wpM G Mc.digest_Sum (pureQ Rs.digest_Sum r) [] (frInit Ks.digest_Sum args) []) : PureOK Tryz.prog (gv1 m) Fn.digest_Sum F :=
 pure_of (by kernel_rfl) hG Tryz.func173 rfl (ks := Ks.digest_Sum) (rs := Rs.digest_Sum) (by kernel_rfl) (by kernel_rfl) (Ok.digest_Sum m) hF
theorem Ok.digest_New (m : GvP) : (compC Tryz.prog (gv1 m) Ks.digest_New Tryz.f202.ntmps [] (Tryz.f202.body.getD .skip) Dl.digest_New).1 = Mc.digest_New := by kernel_rfl
theorem Gen.digest_New {m : GvP} {G : Gam} (hG : GamOK Tryz.prog (gv1 m) G) {F : List AV → Heap → Option (AV × Heap)} (hF : ∀ args h r h',F args h = some (r,h') → wpM G Mc.digest_New (genQ Rs.digest_New r h') [] (frInit Ks.digest_New args) h) : GenOK Tryz.prog (gv1 m) Fn.digest_New F :=
 gen_of (by kernel_rfl) hG Tryz.func202 rfl (ks := Ks.digest_New) (rs := Rs.digest_New) (by kernel_rfl) (by kernel_rfl) (Ok.digest_New m) hF
theorem Ok.q29 (m : GvP) : (compC Tryz.prog (gv1 m) Ks.q29 Tryz.f203.ntmps Ow.__digest_Sponge__Write (Tryz.f203.body.getD .skip) Dl.q29).1 = Mc.q29 := by kernel_rfl
theorem Gen.q29 {m : GvP} {G : Gam} (hG : GamOK Tryz.prog (gv1 m) G) {F : List AV → Heap → Option (AV × Heap)} (hF : ∀ args h r h',F args h = some (r,h') → wpM G Mc.q29 (genQ Rs.q29 r h') [] (frInit Ks.q29 args) h) : GenOK Tryz.prog (gv1 m) Fn.q29 F :=
 gen_of (by kernel_rfl) hG Tryz.func203 rfl (ks := Ks.q29) (rs := Rs.q29) (by kernel_rfl) (by kernel_rfl) (Ok.q29 m) hF
theorem Ok.q37 (m : GvP) : (compC Tryz.prog (gv1 m) Ks.q37 Tryz.f204.ntmps [] (Tryz.f204.body.getD .skip) Dl.q37).1 = Mc.q37 := by kernel_rfl
theorem Gen.q37 {m : GvP} {G : Gam} (hG : GamOK Tryz.prog (gv1 m) G) {F : List AV → Heap → Option (AV × Heap)} (hF : ∀ args h r h',F args h = some (r,h') → wpM G Mc.q37 (genQ Rs.q37 r h') [] (frInit Ks.q37 args) h) : GenOK Tryz.prog (gv1 m) Fn.q37 F :=
 gen_of (by kernel_rfl) hG Tryz.func204 rfl (ks := Ks.q37) (rs := Rs.q37) (by kernel_rfl) (by kernel_rfl) (Ok.q37 m) hF
theorem Ok.q24 (m : GvP) : (compC Tryz.prog (gv1 m) Ks.q24 Tryz.f272.ntmps [] (Tryz.f272.body.getD .skip) Dl.q24).1 = Mc.q24 := by kernel_rfl
theorem Gen.q24 {m : GvP} {G : Gam} (hG : GamOK Tryz.prog (gv1 m) G) {F : List AV → Heap → Option (AV × Heap)} (hF : ∀ args h r h',F args h = some (r,h') → wpM G Mc.q24 (genQ Rs.q24 r h') [] (frInit Ks.q24 args) h) : GenOK Tryz.prog (gv1 m) Fn.q24 F :=
 gen_of (by kernel_rfl) hG Tryz.func272 rfl (ks := Ks.q24) (rs := Rs.q24) (by kernel_rfl) (by kernel_rfl) (Ok.q24 m) hF
theorem Ok.q30 (m : GvP) : (compC Tryz.prog (gv1 m) Ks.q30 Tryz.f273.ntmps [] (Tryz.f273.body.getD .skip) Dl.q30).1 = Mc.q30 := by kernel_rfl
theorem Gen.q30 {m : GvP} {G : Gam} (hG : GamOK Tryz.prog (gv1 m) G) {F : List AV → Heap → Option (AV × Heap)} (hF : ∀ args h r h',F args h = some (r,h') → wpM G Mc.q30 (genQ Rs.q30 r h') [] (frInit Ks.q30 args) h) : GenOK Tryz.prog (gv1 m) Fn.q30 F :=
 gen_of (by kernel_rfl) hG Tryz.func273 rfl (ks := Ks.q30) (rs := Rs.q30) (by kernel_rfl) (by kernel_rfl) (Ok.q30 m) hF
theorem Ok.q62 (m : GvP) : (compC Tryz.prog (gv1 m) Ks.q62 Tryz.f327.ntmps [] (Tryz.f327.body.getD .skip) Dl.q62).1 = Mc.q62 := by kernel_rfl
theorem Pure.q62 {m : GvP} {G : Gam} (hG : GamOK Tryz.prog (gv1 m) G) {F : List AV → Option AV} (hF : ∀ args r,F args = some r → wpM G Mc.q62 (pureQ Rs.q62 r) [] (frInit Ks.q62 args) []) : PureOK Tryz.prog (gv1 m) Fn.q62 F :=
 pure_of (by kernel_rfl) hG Tryz.func327 rfl (ks := Ks.q62) (rs := Rs.q62) (by kernel_rfl) (by kernel_rfl) (Ok.q62 m) hF
theorem Ok.q63 (m : GvP) : (compC Tryz.prog (gv1 m) Ks.q63 Tryz.f376.ntmps [] (Tryz.f376.body.getD .skip) Dl.q63).1 = Mc.q63 := by kernel_rfl
theorem Pure.q63 {m : GvP} {G : Gam} (hG : GamOK Tryz.prog (gv1 m) G) {F : List AV → Option AV} (hF : ∀ args r,F args = some r → wpM G Mc.q63 (pureQ Rs.q63 r) [] (frInit Ks.q63 args) []) : PureOK Tryz.prog (gv1 m) Fn.q63 F :=
 pure_of (by kernel_rfl) hG Tryz.func376 rfl (ks := Ks.q63) (rs := Rs.q63) (by kernel_rfl) (by kernel_rfl) (Ok.q63 m) hF
theorem Ok.q55 (m : GvP) : (compC Tryz.prog (gv1 m) Ks.q55 Tryz.f377.ntmps [] (Tryz.f377.body.getD .skip) Dl.q55).1 = Mc.q55 := by kernel_rfl
theorem Pure.q55 {m : GvP} {G : Gam} (hG : GamOK Tryz.prog (gv1 m) G) {F : List AV → Option AV} (hF : ∀ args r,F args = some r → wpM G Mc.q55 (pureQ Rs.q55 r) [] (frInit Ks.q55 args) []) : PureOK Tryz.prog (gv1 m) Fn.q55 F :=
 pure_of (by kernel_rfl) hG Tryz.func377 rfl (ks := Ks.q55) (rs := Rs.q55) (by kernel_rfl) (by kernel_rfl) (Ok.q55 m) hF
theorem Ok.q75 (m : GvP) : (compC Tryz.prog (gv1 m) Ks.q75 Tryz.f378.ntmps [] (Tryz.f378.body.getD .skip) Dl.q75).1 = Mc.q75 := by kernel_rfl
theorem Pure.q75 {m : GvP} {G : Gam} (hG : GamOK Tryz.prog (gv1 m) G) {F : List AV → Option AV} (hF : ∀ args r,F args = some r → wpM G Mc.q75 (pureQ Rs.q75 r) [] (frInit Ks.q75 args) []) : PureOK Tryz.prog (gv1 m) Fn.q75 F :=
 pure_of (by kernel_rfl) hG Tryz.func378 rfl (ks := Ks.q75) (rs := Rs.q75) (by kernel_rfl) (by kernel_rfl) (Ok.q75 m) hF
theorem Ok.q31 (m : GvP) : (compC Tryz.prog (gv1 m) Ks.q31 Tryz.f440.ntmps [] (Tryz.f440.body.getD .skip) Dl.q31).1 = Mc.q31 := by kernel_rfl
theorem Pure.q31 {m : GvP} {G : Gam} (hG : GamOK Tryz.prog (gv1 m) G) {F : List AV → Option AV} (hF : ∀ args r,F args = some r → wpM G Mc.q31 (pureQ Rs.q31 r) [] (frInit Ks.q31 args) []) : PureOK Tryz.prog (gv1 m) Fn.q31 F :=
 pure_of (by kernel_rfl) hG Tryz.func440 rfl (ks := Ks.q31) (rs := Rs.q31) (by kernel_rfl) (by kernel_rfl) (Ok.q31 m) hF
end Go.Proofs.YtaadifodgahnjaaGreatDoor
