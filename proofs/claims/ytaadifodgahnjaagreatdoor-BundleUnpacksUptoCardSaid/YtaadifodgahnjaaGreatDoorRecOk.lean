/- The resolved functions are the functions of the program (law 46). -/
import Derived.Test.YtaadifodgahnjaaGreatDoorRecMc
import Derived.Test.YtaadifodgahnjaaGreatDoorAm9
import Derived.Test.YtaadifodgahnjaaGreatDoorAm8
import Derived.Test.YtaadifodgahnjaaGreatDoorChecked
import Derived.KernelRfl
import Derived.Lib.ItoaNum
namespace Go.Proofs.YtaadifodgahnjaaGreatDoor
structure GvP where
 m : Int
 t4 : TypeId
 p4 : Value
 t5 : TypeId
 p5 : Value
def gv1 (m : GvP) : Gv := ⟨fun g => if g = 0 then some [.int .i64 m.m] else none,fun g => if g = 3 then some (Lib.pow10Tab.map fun z => Value.int .u64 z) else if g = 1 then some [.iface m.t4 m.p4] else if g = 2 then some [.iface m.t5 m.p5] else none⟩
theorem Ok.q30 (m : GvP) : (compC Tryz.prog (gv1 m) Ks.q30 Tryz.f3.ntmps [] (Tryz.f3.body.getD .skip) Dl.q30).1 = Mc.q30 := by kernel_rfl
theorem Pure.q30 {m : GvP} {G : Gam} (hG : GamOK Tryz.prog (gv1 m) G) {F : List AV → Option AV} (hF : ∀ args r,F args = some r → wpM G Mc.q30 (pureQ Rs.q30 r) [] (frInit Ks.q30 args) []) : PureOK Tryz.prog (gv1 m) Fn.q30 F :=
 pure_of (by kernel_rfl) hG Tryz.func3 rfl (ks := Ks.q30) (rs := Rs.q30) (by kernel_rfl) (by kernel_rfl) (Ok.q30 m) hF
theorem Ok.q26 (m : GvP) : (compC Tryz.prog (gv1 m) Ks.q26 Tryz.f4.ntmps [] (Tryz.f4.body.getD .skip) Dl.q26).1 = Mc.q26 := by kernel_rfl
theorem Pure.q26 {m : GvP} {G : Gam} (hG : GamOK Tryz.prog (gv1 m) G) {F : List AV → Option AV} (hF : ∀ args r,F args = some r → wpM G Mc.q26 (pureQ Rs.q26 r) [] (frInit Ks.q26 args) []) : PureOK Tryz.prog (gv1 m) Fn.q26 F :=
 pure_of (by kernel_rfl) hG Tryz.func4 rfl (ks := Ks.q26) (rs := Rs.q26) (by kernel_rfl) (by kernel_rfl) (Ok.q26 m) hF
theorem Ok.q39 (m : GvP) : (compC Tryz.prog (gv1 m) Ks.q39 Tryz.f7.ntmps [] (Tryz.f7.body.getD .skip) Dl.q39).1 = Mc.q39 := by kernel_rfl
theorem Pure.q39 {m : GvP} {G : Gam} (hG : GamOK Tryz.prog (gv1 m) G) {F : List AV → Option AV} (hF : ∀ args r,F args = some r → wpM G Mc.q39 (pureQ Rs.q39 r) [] (frInit Ks.q39 args) []) : PureOK Tryz.prog (gv1 m) Fn.q39 F :=
 pure_of (by kernel_rfl) hG Tryz.func7 rfl (ks := Ks.q39) (rs := Rs.q39) (by kernel_rfl) (by kernel_rfl) (Ok.q39 m) hF
theorem Ok.bundle_Pack (m : GvP) : (compC Tryz.prog (gv1 m) Ks.bundle_Pack Tryz.f8.ntmps [] (Tryz.f8.body.getD .skip) Dl.bundle_Pack).1 = Mc.bundle_Pack := by kernel_rfl
theorem Pure.bundle_Pack {m : GvP} {G : Gam} (hG : GamOK Tryz.prog (gv1 m) G) {F : List AV → Option AV} (hF : ∀ args r,F args = some r → wpM G Mc.bundle_Pack (pureQ Rs.bundle_Pack r) [] (frInit Ks.bundle_Pack args) []) : PureOK Tryz.prog (gv1 m) Fn.bundle_Pack F :=
 pure_of (by kernel_rfl) hG Tryz.func8 rfl (ks := Ks.bundle_Pack) (rs := Rs.bundle_Pack) (by kernel_rfl) (by kernel_rfl) (Ok.bundle_Pack m) hF
theorem Ok.q64 (m : GvP) : (compC Tryz.prog (gv1 m) Ks.q64 Tryz.f9.ntmps [] (Tryz.f9.body.getD .skip) Dl.q64).1 = Mc.q64 := by kernel_rfl
theorem Pure.q64 {m : GvP} {G : Gam} (hG : GamOK Tryz.prog (gv1 m) G) {F : List AV → Option AV} (hF : ∀ args r,F args = some r → wpM G Mc.q64 (pureQ Rs.q64 r) [] (frInit Ks.q64 args) []) : PureOK Tryz.prog (gv1 m) Fn.q64 F :=
 pure_of (by kernel_rfl) hG Tryz.func9 rfl (ks := Ks.q64) (rs := Rs.q64) (by kernel_rfl) (by kernel_rfl) (Ok.q64 m) hF
theorem Ok.q76 (m : GvP) : (compC Tryz.prog (gv1 m) Ks.q76 Tryz.f10.ntmps [] (Tryz.f10.body.getD .skip) Dl.q76).1 = Mc.q76 := by kernel_rfl
theorem Pure.q76 {m : GvP} {G : Gam} (hG : GamOK Tryz.prog (gv1 m) G) {F : List AV → Option AV} (hF : ∀ args r,F args = some r → wpM G Mc.q76 (pureQ Rs.q76 r) [] (frInit Ks.q76 args) []) : PureOK Tryz.prog (gv1 m) Fn.q76 F :=
 pure_of (by kernel_rfl) hG Tryz.func10 rfl (ks := Ks.q76) (rs := Rs.q76) (by kernel_rfl) (by kernel_rfl) (Ok.q76 m) hF
theorem Ok.q65 (m : GvP) : (compC Tryz.prog (gv1 m) Ks.q65 Tryz.f11.ntmps [] (Tryz.f11.body.getD .skip) Dl.q65).1 = Mc.q65 := by kernel_rfl
theorem Pure.q65 {m : GvP} {G : Gam} (hG : GamOK Tryz.prog (gv1 m) G) {F : List AV → Option AV} (hF : ∀ args r,F args = some r → wpM G Mc.q65 (pureQ Rs.q65 r) [] (frInit Ks.q65 args) []) : PureOK Tryz.prog (gv1 m) Fn.q65 F :=
 pure_of (by kernel_rfl) hG Tryz.func11 rfl (ks := Ks.q65) (rs := Rs.q65) (by kernel_rfl) (by kernel_rfl) (Ok.q65 m) hF
theorem Ok.q46 (m : GvP) : (compC Tryz.prog (gv1 m) Ks.q46 Tryz.f12.ntmps [] (Tryz.f12.body.getD .skip) Dl.q46).1 = Mc.q46 := by kernel_rfl
theorem Pure.q46 {m : GvP} {G : Gam} (hG : GamOK Tryz.prog (gv1 m) G) {F : List AV → Option AV} (hF : ∀ args r,F args = some r → wpM G Mc.q46 (pureQ Rs.q46 r) [] (frInit Ks.q46 args) []) : PureOK Tryz.prog (gv1 m) Fn.q46 F :=
 pure_of (by kernel_rfl) hG Tryz.func12 rfl (ks := Ks.q46) (rs := Rs.q46) (by kernel_rfl) (by kernel_rfl) (Ok.q46 m) hF
theorem Ok.q69 (m : GvP) : (compC Tryz.prog (gv1 m) Ks.q69 Tryz.f29.ntmps [] (Tryz.f29.body.getD .skip) Dl.q69).1 = Mc.q69 := by kernel_rfl
theorem Pure.q69 {m : GvP} {G : Gam} (hG : GamOK Tryz.prog (gv1 m) G) {F : List AV → Option AV} (hF : ∀ args r,F args = some r → wpM G Mc.q69 (pureQ Rs.q69 r) [] (frInit Ks.q69 args) []) : PureOK Tryz.prog (gv1 m) Fn.q69 F :=
 pure_of (by kernel_rfl) hG Tryz.func29 rfl (ks := Ks.q69) (rs := Rs.q69) (by kernel_rfl) (by kernel_rfl) (Ok.q69 m) hF
theorem Ok.q73 (m : GvP) : (compC Tryz.prog (gv1 m) Ks.q73 Tryz.f18.ntmps [] (Tryz.f18.body.getD .skip) Dl.q73).1 = Mc.q73 := by kernel_rfl
theorem Pure.q73 {m : GvP} {G : Gam} (hG : GamOK Tryz.prog (gv1 m) G) {F : List AV → Option AV} (hF : ∀ args r,F args = some r → wpM G Mc.q73 (pureQ Rs.q73 r) [] (frInit Ks.q73 args) []) : PureOK Tryz.prog (gv1 m) Fn.q73 F :=
 pure_of (by kernel_rfl) hG Tryz.func18 rfl (ks := Ks.q73) (rs := Rs.q73) (by kernel_rfl) (by kernel_rfl) (Ok.q73 m) hF
theorem Ok.codec_Text (m : GvP) : (compC Tryz.prog (gv1 m) Ks.codec_Text Tryz.f19.ntmps [] (Tryz.f19.body.getD .skip) Dl.codec_Text).1 = Mc.codec_Text := by kernel_rfl
theorem Pure.codec_Text {m : GvP} {G : Gam} (hG : GamOK Tryz.prog (gv1 m) G) {F : List AV → Option AV} (hF : ∀ args r,F args = some r → wpM G Mc.codec_Text (pureQ Rs.codec_Text r) [] (frInit Ks.codec_Text args) []) : PureOK Tryz.prog (gv1 m) Fn.codec_Text F :=
 pure_of (by kernel_rfl) hG Tryz.func19 rfl (ks := Ks.codec_Text) (rs := Rs.codec_Text) (by kernel_rfl) (by kernel_rfl) (Ok.codec_Text m) hF
theorem Ok.tree_Check (m : GvP) : (compC Tryz.prog (gv1 m) Ks.tree_Check Tryz.f20.ntmps [] (Tryz.f20.body.getD .skip) Dl.tree_Check).1 = Mc.tree_Check := by kernel_rfl
theorem Pure.tree_Check {m : GvP} {G : Gam} (hG : GamOK Tryz.prog (gv1 m) G) {F : List AV → Option AV} (hF : ∀ args r,F args = some r → wpM G Mc.tree_Check (pureQ Rs.tree_Check r) [] (frInit Ks.tree_Check args) []) : PureOK Tryz.prog (gv1 m) Fn.tree_Check F :=
 pure_of (by kernel_rfl) hG Tryz.func20 rfl (ks := Ks.tree_Check) (rs := Rs.tree_Check) (by kernel_rfl) (by kernel_rfl) (Ok.tree_Check m) hF
theorem Ok.q81 (m : GvP) : (compC Tryz.prog (gv1 m) Ks.q81 Tryz.f21.ntmps [] (Tryz.f21.body.getD .skip) Dl.q81).1 = Mc.q81 := by kernel_rfl
theorem Pure.q81 {m : GvP} {G : Gam} (hG : GamOK Tryz.prog (gv1 m) G) {F : List AV → Option AV} (hF : ∀ args r,F args = some r → wpM G Mc.q81 (pureQ Rs.q81 r) [] (frInit Ks.q81 args) []) : PureOK Tryz.prog (gv1 m) Fn.q81 F :=
 pure_of (by kernel_rfl) hG Tryz.func21 rfl (ks := Ks.q81) (rs := Rs.q81) (by kernel_rfl) (by kernel_rfl) (Ok.q81 m) hF
theorem Ok.q56 (m : GvP) : (compC Tryz.prog (gv1 m) Ks.q56 Tryz.f22.ntmps [] (Tryz.f22.body.getD .skip) Dl.q56).1 = Mc.q56 := by kernel_rfl
theorem Pure.q56 {m : GvP} {G : Gam} (hG : GamOK Tryz.prog (gv1 m) G) {F : List AV → Option AV} (hF : ∀ args r,F args = some r → wpM G Mc.q56 (pureQ Rs.q56 r) [] (frInit Ks.q56 args) []) : PureOK Tryz.prog (gv1 m) Fn.q56 F :=
 pure_of (by kernel_rfl) hG Tryz.func22 rfl (ks := Ks.q56) (rs := Rs.q56) (by kernel_rfl) (by kernel_rfl) (Ok.q56 m) hF
theorem Ok.q66 (m : GvP) : (compC Tryz.prog (gv1 m) Ks.q66 Tryz.f23.ntmps [] (Tryz.f23.body.getD .skip) Dl.q66).1 = Mc.q66 := by kernel_rfl
theorem Pure.q66 {m : GvP} {G : Gam} (hG : GamOK Tryz.prog (gv1 m) G) {F : List AV → Option AV} (hF : ∀ args r,F args = some r → wpM G Mc.q66 (pureQ Rs.q66 r) [] (frInit Ks.q66 args) []) : PureOK Tryz.prog (gv1 m) Fn.q66 F :=
 pure_of (by kernel_rfl) hG Tryz.func23 rfl (ks := Ks.q66) (rs := Rs.q66) (by kernel_rfl) (by kernel_rfl) (Ok.q66 m) hF
theorem Ok.q67 (m : GvP) : (compC Tryz.prog (gv1 m) Ks.q67 Tryz.f24.ntmps [] (Tryz.f24.body.getD .skip) Dl.q67).1 = Mc.q67 := by kernel_rfl
theorem Pure.q67 {m : GvP} {G : Gam} (hG : GamOK Tryz.prog (gv1 m) G) {F : List AV → Option AV} (hF : ∀ args r,F args = some r → wpM G Mc.q67 (pureQ Rs.q67 r) [] (frInit Ks.q67 args) []) : PureOK Tryz.prog (gv1 m) Fn.q67 F :=
 pure_of (by kernel_rfl) hG Tryz.func24 rfl (ks := Ks.q67) (rs := Rs.q67) (by kernel_rfl) (by kernel_rfl) (Ok.q67 m) hF
theorem Ok.q68 (m : GvP) : (compC Tryz.prog (gv1 m) Ks.q68 Tryz.f25.ntmps [] (Tryz.f25.body.getD .skip) Dl.q68).1 = Mc.q68 := by kernel_rfl
theorem Gen.q68 {m : GvP} {G : Gam} (hG : GamOK Tryz.prog (gv1 m) G) {F : List AV → Heap → Option (AV × Heap)} (hF : ∀ args h r h',F args h = some (r,h') → wpM G Mc.q68 (genQ Rs.q68 r h') [] (frInit Ks.q68 args) h) : GenOK Tryz.prog (gv1 m) Fn.q68 F :=
 gen_of (by kernel_rfl) hG Tryz.func25 rfl (ks := Ks.q68) (rs := Rs.q68) (by kernel_rfl) (by kernel_rfl) (Ok.q68 m) hF
theorem Ok.q40 (m : GvP) : (compC Tryz.prog (gv1 m) Ks.q40 Tryz.f26.ntmps [] (Tryz.f26.body.getD .skip) Dl.q40).1 = Mc.q40 := by kernel_rfl
theorem Gen.q40 {m : GvP} {G : Gam} (hG : GamOK Tryz.prog (gv1 m) G) {F : List AV → Heap → Option (AV × Heap)} (hF : ∀ args h r h',F args h = some (r,h') → wpM G Mc.q40 (genQ Rs.q40 r h') [] (frInit Ks.q40 args) h) : GenOK Tryz.prog (gv1 m) Fn.q40 F :=
 gen_of (by kernel_rfl) hG Tryz.func26 rfl (ks := Ks.q40) (rs := Rs.q40) (by kernel_rfl) (by kernel_rfl) (Ok.q40 m) hF
theorem Ok.q82 (m : GvP) : (compC Tryz.prog (gv1 m) Ks.q82 Tryz.f27.ntmps [] (Tryz.f27.body.getD .skip) Dl.q82).1 = Mc.q82 := by kernel_rfl
theorem Ok.q37 (m : GvP) : (compC Tryz.prog (gv1 m) Ks.q37 Tryz.f28.ntmps [] (Tryz.f28.body.getD .skip) Dl.q37).1 = Mc.q37 := by kernel_rfl
theorem Look.q37 {m : GvP} {G : Gam} (hG : GamOK Tryz.prog (gv1 m) G) {F : List AV → Heap → Option AV} (hF : ∀ args h r,F args h = some r → wpM G Mc.q37 (lookQ Rs.q37 r h) [] (frInit Ks.q37 args) h) : GenOK Tryz.prog (gv1 m) Fn.q37 (lookF F) :=
 look_of (by kernel_rfl) hG Tryz.func28 rfl (ks := Ks.q37) (rs := Rs.q37) (by kernel_rfl) (by kernel_rfl) (Ok.q37 m) hF
theorem Ok.q23 (m : GvP) : (compC Tryz.prog (gv1 m) Ks.q23 Tryz.f30.ntmps [] (Tryz.f30.body.getD .skip) Dl.q23).1 = Mc.q23 := by kernel_rfl
theorem Gen.q23 {m : GvP} {G : Gam} (hG : GamOK Tryz.prog (gv1 m) G) {F : List AV → Heap → Option (AV × Heap)} (hF : ∀ args h r h',F args h = some (r,h') → wpM G Mc.q23 (genQ Rs.q23 r h') [] (frInit Ks.q23 args) h) : GenOK Tryz.prog (gv1 m) Fn.q23 F :=
 gen_of (by kernel_rfl) hG Tryz.func30 rfl (ks := Ks.q23) (rs := Rs.q23) (by kernel_rfl) (by kernel_rfl) (Ok.q23 m) hF
theorem Ok.q47 (m : GvP) : (compC Tryz.prog (gv1 m) Ks.q47 Tryz.f31.ntmps [] (Tryz.f31.body.getD .skip) Dl.q47).1 = Mc.q47 := by kernel_rfl
theorem Ok.q21 (m : GvP) : (compC Tryz.prog (gv1 m) Ks.q21 Tryz.f32.ntmps [] (Tryz.f32.body.getD .skip) Dl.q21).1 = Mc.q21 := by kernel_rfl
theorem Look.q21 {m : GvP} {G : Gam} (hG : GamOK Tryz.prog (gv1 m) G) {F : List AV → Heap → Option AV} (hF : ∀ args h r,F args h = some r → wpM G Mc.q21 (lookQ Rs.q21 r h) [] (frInit Ks.q21 args) h) : GenOK Tryz.prog (gv1 m) Fn.q21 (lookF F) :=
 look_of (by kernel_rfl) hG Tryz.func32 rfl (ks := Ks.q21) (rs := Rs.q21) (by kernel_rfl) (by kernel_rfl) (Ok.q21 m) hF
theorem Ok.tree_Path (m : GvP) : (compC Tryz.prog (gv1 m) Ks.tree_Path Tryz.f35.ntmps [] (Tryz.f35.body.getD .skip) Dl.tree_Path).1 = Mc.tree_Path := by kernel_rfl
theorem Pure.tree_Path {m : GvP} {G : Gam} (hG : GamOK Tryz.prog (gv1 m) G) {F : List AV → Option AV} (hF : ∀ args r,F args = some r → wpM G Mc.tree_Path (pureQ Rs.tree_Path r) [] (frInit Ks.tree_Path args) []) : PureOK Tryz.prog (gv1 m) Fn.tree_Path F :=
 pure_of (by kernel_rfl) hG Tryz.func35 rfl (ks := Ks.tree_Path) (rs := Rs.tree_Path) (by kernel_rfl) (by kernel_rfl) (Ok.tree_Path m) hF
theorem Ok.q70 (m : GvP) : (compC Tryz.prog (gv1 m) Ks.q70 Tryz.f38.ntmps [] (Tryz.f38.body.getD .skip) Dl.q70).1 = Mc.q70 := by kernel_rfl
theorem Pure.q70 {m : GvP} {G : Gam} (hG : GamOK Tryz.prog (gv1 m) G) {F : List AV → Option AV} (hF : ∀ args r,F args = some r → wpM G Mc.q70 (pureQ Rs.q70 r) [] (frInit Ks.q70 args) []) : PureOK Tryz.prog (gv1 m) Fn.q70 F :=
 pure_of (by kernel_rfl) hG Tryz.func38 rfl (ks := Ks.q70) (rs := Rs.q70) (by kernel_rfl) (by kernel_rfl) (Ok.q70 m) hF
theorem Ok.q31 (m : GvP) : (compC Tryz.prog (gv1 m) Ks.q31 Tryz.f55.ntmps [] (Tryz.f55.body.getD .skip) Dl.q31).1 = Mc.q31 := by kernel_rfl
theorem Gen.q31 {m : GvP} {G : Gam} (hG : GamOK Tryz.prog (gv1 m) G) {F : List AV → Heap → Option (AV × Heap)} (hF : ∀ args h r h',F args h = some (r,h') → wpM G Mc.q31 (genQ Rs.q31 r h') [] (frInit Ks.q31 args) h) : GenOK Tryz.prog (gv1 m) Fn.q31 F :=
 gen_of (by kernel_rfl) hG Tryz.func55 rfl (ks := Ks.q31) (rs := Rs.q31) (by kernel_rfl) (by kernel_rfl) (Ok.q31 m) hF
theorem Ok.q20 (m : GvP) : (compC Tryz.prog (gv1 m) Ks.q20 Tryz.f58.ntmps [] (Tryz.f58.body.getD .skip) Dl.q20).1 = Mc.q20 := by kernel_rfl
theorem Gen.q20 {m : GvP} {G : Gam} (hG : GamOK Tryz.prog (gv1 m) G) {F : List AV → Heap → Option (AV × Heap)} (hF : ∀ args h r h',F args h = some (r,h') → wpM G Mc.q20 (genQ Rs.q20 r h') [] (frInit Ks.q20 args) h) : GenOK Tryz.prog (gv1 m) Fn.q20 F :=
 gen_of (by kernel_rfl) hG Tryz.func58 rfl (ks := Ks.q20) (rs := Rs.q20) (by kernel_rfl) (by kernel_rfl) (Ok.q20 m) hF
theorem Ok.q9 (m : GvP) : (compC Tryz.prog (gv1 m) Ks.q9 Tryz.f46.ntmps [] (Tryz.f46.body.getD .skip) Dl.q9).1 = Mc.q9 := by kernel_rfl
theorem Look.q9 {m : GvP} {G : Gam} (hG : GamOK Tryz.prog (gv1 m) G) {F : List AV → Heap → Option AV} (hF : ∀ args h r,F args h = some r → wpM G Mc.q9 (lookQ Rs.q9 r h) [] (frInit Ks.q9 args) h) : GenOK Tryz.prog (gv1 m) Fn.q9 (lookF F) :=
 look_of (by kernel_rfl) hG Tryz.func46 rfl (ks := Ks.q9) (rs := Rs.q9) (by kernel_rfl) (by kernel_rfl) (Ok.q9 m) hF
theorem Ok.q85 (m : GvP) : (compC Tryz.prog (gv1 m) Ks.q85 Tryz.f47.ntmps [] (Tryz.f47.body.getD .skip) Dl.q85).1 = Mc.q85 := by kernel_rfl
theorem Look.q85 {m : GvP} {G : Gam} (hG : GamOK Tryz.prog (gv1 m) G) {F : List AV → Heap → Option AV} (hF : ∀ args h r,F args h = some r → wpM G Mc.q85 (lookQ Rs.q85 r h) [] (frInit Ks.q85 args) h) : GenOK Tryz.prog (gv1 m) Fn.q85 (lookF F) :=
 look_of (by kernel_rfl) hG Tryz.func47 rfl (ks := Ks.q85) (rs := Rs.q85) (by kernel_rfl) (by kernel_rfl) (Ok.q85 m) hF
theorem Ok.tree_below (m : GvP) : (compC Tryz.prog (gv1 m) Ks.tree_below Tryz.f48.ntmps [] (Tryz.f48.body.getD .skip) Dl.tree_below).1 = Mc.tree_below := by kernel_rfl
theorem Pure.tree_below {m : GvP} {G : Gam} (hG : GamOK Tryz.prog (gv1 m) G) {F : List AV → Option AV} (hF : ∀ args r,F args = some r → wpM G Mc.tree_below (pureQ Rs.tree_below r) [] (frInit Ks.tree_below args) []) : PureOK Tryz.prog (gv1 m) Fn.tree_below F :=
 pure_of (by kernel_rfl) hG Tryz.func48 rfl (ks := Ks.tree_below) (rs := Rs.tree_below) (by kernel_rfl) (by kernel_rfl) (Ok.tree_below m) hF
theorem Ok.q58 (m : GvP) : (compC Tryz.prog (gv1 m) Ks.q58 Tryz.f49.ntmps [] (Tryz.f49.body.getD .skip) Dl.q58).1 = Mc.q58 := by kernel_rfl
theorem Pure.q58 {m : GvP} {G : Gam} (hG : GamOK Tryz.prog (gv1 m) G) {F : List AV → Option AV} (hF : ∀ args r,F args = some r → wpM G Mc.q58 (pureQ Rs.q58 r) [] (frInit Ks.q58 args) []) : PureOK Tryz.prog (gv1 m) Fn.q58 F :=
 pure_of (by kernel_rfl) hG Tryz.func49 rfl (ks := Ks.q58) (rs := Rs.q58) (by kernel_rfl) (by kernel_rfl) (Ok.q58 m) hF
theorem Ok.q45 (m : GvP) : (compC Tryz.prog (gv1 m) Ks.q45 Tryz.f50.ntmps [] (Tryz.f50.body.getD .skip) Dl.q45).1 = Mc.q45 := by kernel_rfl
theorem Pure.q45 {m : GvP} {G : Gam} (hG : GamOK Tryz.prog (gv1 m) G) {F : List AV → Option AV} (hF : ∀ args r,F args = some r → wpM G Mc.q45 (pureQ Rs.q45 r) [] (frInit Ks.q45 args) []) : PureOK Tryz.prog (gv1 m) Fn.q45 F :=
 pure_of (by kernel_rfl) hG Tryz.func50 rfl (ks := Ks.q45) (rs := Rs.q45) (by kernel_rfl) (by kernel_rfl) (Ok.q45 m) hF
theorem Ok.q48 (m : GvP) : (compC Tryz.prog (gv1 m) Ks.q48 Tryz.f51.ntmps [] (Tryz.f51.body.getD .skip) Dl.q48).1 = Mc.q48 := by kernel_rfl
theorem Pure.q48 {m : GvP} {G : Gam} (hG : GamOK Tryz.prog (gv1 m) G) {F : List AV → Option AV} (hF : ∀ args r,F args = some r → wpM G Mc.q48 (pureQ Rs.q48 r) [] (frInit Ks.q48 args) []) : PureOK Tryz.prog (gv1 m) Fn.q48 F :=
 pure_of (by kernel_rfl) hG Tryz.func51 rfl (ks := Ks.q48) (rs := Rs.q48) (by kernel_rfl) (by kernel_rfl) (Ok.q48 m) hF
theorem Ok.q38 (m : GvP) : (compC Tryz.prog (gv1 m) Ks.q38 Tryz.f52.ntmps [] (Tryz.f52.body.getD .skip) Dl.q38).1 = Mc.q38 := by kernel_rfl
theorem Look.q38 {m : GvP} {G : Gam} (hG : GamOK Tryz.prog (gv1 m) G) {F : List AV → Heap → Option AV} (hF : ∀ args h r,F args h = some r → wpM G Mc.q38 (lookQ Rs.q38 r h) [] (frInit Ks.q38 args) h) : GenOK Tryz.prog (gv1 m) Fn.q38 (lookF F) :=
 look_of (by kernel_rfl) hG Tryz.func52 rfl (ks := Ks.q38) (rs := Rs.q38) (by kernel_rfl) (by kernel_rfl) (Ok.q38 m) hF
theorem Ok.q41 (m : GvP) : (compC Tryz.prog (gv1 m) Ks.q41 Tryz.f53.ntmps [] (Tryz.f53.body.getD .skip) Dl.q41).1 = Mc.q41 := by kernel_rfl
theorem Gen.q41 {m : GvP} {G : Gam} (hG : GamOK Tryz.prog (gv1 m) G) {F : List AV → Heap → Option (AV × Heap)} (hF : ∀ args h r h',F args h = some (r,h') → wpM G Mc.q41 (genQ Rs.q41 r h') [] (frInit Ks.q41 args) h) : GenOK Tryz.prog (gv1 m) Fn.q41 F :=
 gen_of (by kernel_rfl) hG Tryz.func53 rfl (ks := Ks.q41) (rs := Rs.q41) (by kernel_rfl) (by kernel_rfl) (Ok.q41 m) hF
theorem Ok.q77 (m : GvP) : (compC Tryz.prog (gv1 m) Ks.q77 Tryz.f54.ntmps [] (Tryz.f54.body.getD .skip) Dl.q77).1 = Mc.q77 := by kernel_rfl
theorem Pure.q77 {m : GvP} {G : Gam} (hG : GamOK Tryz.prog (gv1 m) G) {F : List AV → Option AV} (hF : ∀ args r,F args = some r → wpM G Mc.q77 (pureQ Rs.q77 r) [] (frInit Ks.q77 args) []) : PureOK Tryz.prog (gv1 m) Fn.q77 F :=
 pure_of (by kernel_rfl) hG Tryz.func54 rfl (ks := Ks.q77) (rs := Rs.q77) (by kernel_rfl) (by kernel_rfl) (Ok.q77 m) hF
theorem Ok.q59 (m : GvP) : (compC Tryz.prog (gv1 m) Ks.q59 Tryz.f56.ntmps [] (Tryz.f56.body.getD .skip) Dl.q59).1 = Mc.q59 := by kernel_rfl
theorem Pure.q59 {m : GvP} {G : Gam} (hG : GamOK Tryz.prog (gv1 m) G) {F : List AV → Option AV} (hF : ∀ args r,F args = some r → wpM G Mc.q59 (pureQ Rs.q59 r) [] (frInit Ks.q59 args) []) : PureOK Tryz.prog (gv1 m) Fn.q59 F :=
 pure_of (by kernel_rfl) hG Tryz.func56 rfl (ks := Ks.q59) (rs := Rs.q59) (by kernel_rfl) (by kernel_rfl) (Ok.q59 m) hF
theorem Ok.q24 (m : GvP) : (compC Tryz.prog (gv1 m) Ks.q24 Tryz.f57.ntmps [] (Tryz.f57.body.getD .skip) Dl.q24).1 = Mc.q24 := by kernel_rfl
theorem Gen.q24 {m : GvP} {G : Gam} (hG : GamOK Tryz.prog (gv1 m) G) {F : List AV → Heap → Option (AV × Heap)} (hF : ∀ args h r h',F args h = some (r,h') → wpM G Mc.q24 (genQ Rs.q24 r h') [] (frInit Ks.q24 args) h) : GenOK Tryz.prog (gv1 m) Fn.q24 F :=
 gen_of (by kernel_rfl) hG Tryz.func57 rfl (ks := Ks.q24) (rs := Rs.q24) (by kernel_rfl) (by kernel_rfl) (Ok.q24 m) hF
theorem Ok.q71 (m : GvP) : (compC Tryz.prog (gv1 m) Ks.q71 Tryz.f70.ntmps [] (Tryz.f70.body.getD .skip) Dl.q71).1 = Mc.q71 := by kernel_rfl
theorem Pure.q71 {m : GvP} {G : Gam} (hG : GamOK Tryz.prog (gv1 m) G) {F : List AV → Option AV} (hF : ∀ args r,F args = some r → wpM G Mc.q71 (pureQ Rs.q71 r) [] (frInit Ks.q71 args) []) : PureOK Tryz.prog (gv1 m) Fn.q71 F :=
 pure_of (by kernel_rfl) hG Tryz.func70 rfl (ks := Ks.q71) (rs := Rs.q71) (by kernel_rfl) (by kernel_rfl) (Ok.q71 m) hF
theorem Ok.q16 (m : GvP) : (compC Tryz.prog (gv1 m) Ks.q16 Tryz.f61.ntmps [] (Tryz.f61.body.getD .skip) Dl.q16).1 = Mc.q16 := by kernel_rfl
theorem Pure.q16 {m : GvP} {G : Gam} (hG : GamOK Tryz.prog (gv1 m) G) {F : List AV → Option AV} (hF : ∀ args r,F args = some r → wpM G Mc.q16 (pureQ Rs.q16 r) [] (frInit Ks.q16 args) []) : PureOK Tryz.prog (gv1 m) Fn.q16 F :=
 pure_of (by kernel_rfl) hG Tryz.func61 rfl (ks := Ks.q16) (rs := Rs.q16) (by kernel_rfl) (by kernel_rfl) (Ok.q16 m) hF
theorem Ok.q11 (m : GvP) : (compC Tryz.prog (gv1 m) Ks.q11 Tryz.f63.ntmps [] (Tryz.f63.body.getD .skip) Dl.q11).1 = Mc.q11 := by kernel_rfl
theorem Look.q11 {m : GvP} {G : Gam} (hG : GamOK Tryz.prog (gv1 m) G) {F : List AV → Heap → Option AV} (hF : ∀ args h r,F args h = some r → wpM G Mc.q11 (lookQ Rs.q11 r h) [] (frInit Ks.q11 args) h) : GenOK Tryz.prog (gv1 m) Fn.q11 (lookF F) :=
 look_of (by kernel_rfl) hG Tryz.func63 rfl (ks := Ks.q11) (rs := Rs.q11) (by kernel_rfl) (by kernel_rfl) (Ok.q11 m) hF
theorem Ok.tree_Path_1 (m : GvP) : (compC Tryz.prog (gv1 m) Ks.tree_Path_1 Tryz.f64.ntmps [] (Tryz.f64.body.getD .skip) Dl.tree_Path_1).1 = Mc.tree_Path_1 := by kernel_rfl
theorem Pure.tree_Path_1 {m : GvP} {G : Gam} (hG : GamOK Tryz.prog (gv1 m) G) {F : List AV → Option AV} (hF : ∀ args r,F args = some r → wpM G Mc.tree_Path_1 (pureQ Rs.tree_Path_1 r) [] (frInit Ks.tree_Path_1 args) []) : PureOK Tryz.prog (gv1 m) Fn.tree_Path_1 F :=
 pure_of (by kernel_rfl) hG Tryz.func64 rfl (ks := Ks.tree_Path_1) (rs := Rs.tree_Path_1) (by kernel_rfl) (by kernel_rfl) (Ok.tree_Path_1 m) hF
theorem Ok.tree_part (m : GvP) : (compC Tryz.prog (gv1 m) Ks.tree_part Tryz.f65.ntmps [] (Tryz.f65.body.getD .skip) Dl.tree_part).1 = Mc.tree_part := by kernel_rfl
theorem Pure.tree_part {m : GvP} {G : Gam} (hG : GamOK Tryz.prog (gv1 m) G) {F : List AV → Option AV} (hF : ∀ args r,F args = some r → wpM G Mc.tree_part (pureQ Rs.tree_part r) [] (frInit Ks.tree_part args) []) : PureOK Tryz.prog (gv1 m) Fn.tree_part F :=
 pure_of (by kernel_rfl) hG Tryz.func65 rfl (ks := Ks.tree_part) (rs := Rs.tree_part) (by kernel_rfl) (by kernel_rfl) (Ok.tree_part m) hF
theorem Ok.q60 (m : GvP) : (compC Tryz.prog (gv1 m) Ks.q60 Tryz.f69.ntmps [] (Tryz.f69.body.getD .skip) Dl.q60).1 = Mc.q60 := by kernel_rfl
theorem Pure.q60 {m : GvP} {G : Gam} (hG : GamOK Tryz.prog (gv1 m) G) {F : List AV → Option AV} (hF : ∀ args r,F args = some r → wpM G Mc.q60 (pureQ Rs.q60 r) [] (frInit Ks.q60 args) []) : PureOK Tryz.prog (gv1 m) Fn.q60 F :=
 pure_of (by kernel_rfl) hG Tryz.func69 rfl (ks := Ks.q60) (rs := Rs.q60) (by kernel_rfl) (by kernel_rfl) (Ok.q60 m) hF
theorem Ok.q12 (m : GvP) : (compC Tryz.prog (gv1 m) Ks.q12 Tryz.f89.ntmps [] (Tryz.f89.body.getD .skip) Dl.q12).1 = Mc.q12 := by kernel_rfl
theorem Look.q12 {m : GvP} {G : Gam} (hG : GamOK Tryz.prog (gv1 m) G) {F : List AV → Heap → Option AV} (hF : ∀ args h r,F args h = some r → wpM G Mc.q12 (lookQ Rs.q12 r h) [] (frInit Ks.q12 args) h) : GenOK Tryz.prog (gv1 m) Fn.q12 (lookF F) :=
 look_of (by kernel_rfl) hG Tryz.func89 rfl (ks := Ks.q12) (rs := Rs.q12) (by kernel_rfl) (by kernel_rfl) (Ok.q12 m) hF
theorem Ok.q50 (m : GvP) : (compC Tryz.prog (gv1 m) Ks.q50 Tryz.f90.ntmps [] (Tryz.f90.body.getD .skip) Dl.q50).1 = Mc.q50 := by kernel_rfl
theorem Pure.q50 {m : GvP} {G : Gam} (hG : GamOK Tryz.prog (gv1 m) G) {F : List AV → Option AV} (hF : ∀ args r,F args = some r → wpM G Mc.q50 (pureQ Rs.q50 r) [] (frInit Ks.q50 args) []) : PureOK Tryz.prog (gv1 m) Fn.q50 F :=
 pure_of (by kernel_rfl) hG Tryz.func90 rfl (ks := Ks.q50) (rs := Rs.q50) (by kernel_rfl) (by kernel_rfl) (Ok.q50 m) hF
theorem Ok.q19 (m : GvP) : (compC Tryz.prog (gv1 m) Ks.q19 Tryz.f94.ntmps [] (Tryz.f94.body.getD .skip) Dl.q19).1 = Mc.q19 := by kernel_rfl
theorem Pure.q19 {m : GvP} {G : Gam} (hG : GamOK Tryz.prog (gv1 m) G) {F : List AV → Option AV} (hF : ∀ args r,F args = some r → wpM G Mc.q19 (pureQ Rs.q19 r) [] (frInit Ks.q19 args) []) : PureOK Tryz.prog (gv1 m) Fn.q19 F :=
 pure_of (by kernel_rfl) hG Tryz.func94 rfl (ks := Ks.q19) (rs := Rs.q19) (by kernel_rfl) (by kernel_rfl) (Ok.q19 m) hF
theorem Ok.q15 (m : GvP) : (compC Tryz.prog (gv1 m) Ks.q15 Tryz.f96.ntmps [] (Tryz.f96.body.getD .skip) Dl.q15).1 = Mc.q15 := by kernel_rfl
theorem Look.q15 {m : GvP} {G : Gam} (hG : GamOK Tryz.prog (gv1 m) G) {F : List AV → Heap → Option AV} (hF : ∀ args h r,F args h = some r → wpM G Mc.q15 (lookQ Rs.q15 r h) [] (frInit Ks.q15 args) h) : GenOK Tryz.prog (gv1 m) Fn.q15 (lookF F) :=
 look_of (by kernel_rfl) hG Tryz.func96 rfl (ks := Ks.q15) (rs := Rs.q15) (by kernel_rfl) (by kernel_rfl) (Ok.q15 m) hF
theorem Ok.q42 (m : GvP) : (compC Tryz.prog (gv1 m) Ks.q42 Tryz.f97.ntmps [] (Tryz.f97.body.getD .skip) Dl.q42).1 = Mc.q42 := by kernel_rfl
theorem Look.q42 {m : GvP} {G : Gam} (hG : GamOK Tryz.prog (gv1 m) G) {F : List AV → Heap → Option AV} (hF : ∀ args h r,F args h = some r → wpM G Mc.q42 (lookQ Rs.q42 r h) [] (frInit Ks.q42 args) h) : GenOK Tryz.prog (gv1 m) Fn.q42 (lookF F) :=
 look_of (by kernel_rfl) hG Tryz.func97 rfl (ks := Ks.q42) (rs := Rs.q42) (by kernel_rfl) (by kernel_rfl) (Ok.q42 m) hF
theorem Ok.tree_part_1 (m : GvP) : (compC Tryz.prog (gv1 m) Ks.tree_part_1 Tryz.f98.ntmps [] (Tryz.f98.body.getD .skip) Dl.tree_part_1).1 = Mc.tree_part_1 := by kernel_rfl
theorem Pure.tree_part_1 {m : GvP} {G : Gam} (hG : GamOK Tryz.prog (gv1 m) G) {F : List AV → Option AV} (hF : ∀ args r,F args = some r → wpM G Mc.tree_part_1 (pureQ Rs.tree_part_1 r) [] (frInit Ks.tree_part_1 args) []) : PureOK Tryz.prog (gv1 m) Fn.tree_part_1 F :=
 pure_of (by kernel_rfl) hG Tryz.func98 rfl (ks := Ks.tree_part_1) (rs := Rs.tree_part_1) (by kernel_rfl) (by kernel_rfl) (Ok.tree_part_1 m) hF
theorem Ok.q51 (m : GvP) : (compC Tryz.prog (gv1 m) Ks.q51 Tryz.f124.ntmps [] (Tryz.f124.body.getD .skip) Dl.q51).1 = Mc.q51 := by kernel_rfl
theorem Look.q51 {m : GvP} {G : Gam} (hG : GamOK Tryz.prog (gv1 m) G) {F : List AV → Heap → Option AV} (hF : ∀ args h r,F args h = some r → wpM G Mc.q51 (lookQ Rs.q51 r h) [] (frInit Ks.q51 args) h) : GenOK Tryz.prog (gv1 m) Fn.q51 (lookF F) :=
 look_of (by kernel_rfl) hG Tryz.func124 rfl (ks := Ks.q51) (rs := Rs.q51) (by kernel_rfl) (by kernel_rfl) (Ok.q51 m) hF
theorem Ok.q54 (m : GvP) : (compC Tryz.prog (gv1 m) Ks.q54 Tryz.f159.ntmps [] (Tryz.f159.body.getD .skip) Dl.q54).1 = Mc.q54 := by kernel_rfl
theorem Look.q54 {m : GvP} {G : Gam} (hG : GamOK Tryz.prog (gv1 m) G) {F : List AV → Heap → Option AV} (hF : ∀ args h r,F args h = some r → wpM G Mc.q54 (lookQ Rs.q54 r h) [] (frInit Ks.q54 args) h) : GenOK Tryz.prog (gv1 m) Fn.q54 (lookF F) :=
 look_of (by kernel_rfl) hG Tryz.func159 rfl (ks := Ks.q54) (rs := Rs.q54) (by kernel_rfl) (by kernel_rfl) (Ok.q54 m) hF
theorem Ok.digest_Sum (m : GvP) : (compC Tryz.prog (gv1 m) Ks.digest_Sum Tryz.f173.ntmps [] (Tryz.f173.body.getD .skip) Dl.digest_Sum).1 = Mc.digest_Sum := by kernel_rfl
theorem Pure.digest_Sum {m : GvP} {G : Gam} (hG : GamOK Tryz.prog (gv1 m) G) {F : List AV → Option AV} (hF : ∀ args r,F args = some r → wpM G Mc.digest_Sum (pureQ Rs.digest_Sum r) [] (frInit Ks.digest_Sum args) []) : PureOK Tryz.prog (gv1 m) Fn.digest_Sum F :=
 pure_of (by kernel_rfl) hG Tryz.func173 rfl (ks := Ks.digest_Sum) (rs := Rs.digest_Sum) (by kernel_rfl) (by kernel_rfl) (Ok.digest_Sum m) hF
theorem Ok.digest_New (m : GvP) : (compC Tryz.prog (gv1 m) Ks.digest_New Tryz.f202.ntmps [] (Tryz.f202.body.getD .skip) Dl.digest_New).1 = Mc.digest_New := by kernel_rfl
theorem Gen.digest_New {m : GvP} {G : Gam} (hG : GamOK Tryz.prog (gv1 m) G) {F : List AV → Heap → Option (AV × Heap)} (hF : ∀ args h r h',F args h = some (r,h') → wpM G Mc.digest_New (genQ Rs.digest_New r h') [] (frInit Ks.digest_New args) h) : GenOK Tryz.prog (gv1 m) Fn.digest_New F :=
 gen_of (by kernel_rfl) hG Tryz.func202 rfl (ks := Ks.digest_New) (rs := Rs.digest_New) (by kernel_rfl) (by kernel_rfl) (Ok.digest_New m) hF
theorem Ok.q34 (m : GvP) : (compC Tryz.prog (gv1 m) Ks.q34 Tryz.f203.ntmps Ow.__digest_Sponge__Write (Tryz.f203.body.getD .skip) Dl.q34).1 = Mc.q34 := by kernel_rfl
theorem Gen.q34 {m : GvP} {G : Gam} (hG : GamOK Tryz.prog (gv1 m) G) {F : List AV → Heap → Option (AV × Heap)} (hF : ∀ args h r h',F args h = some (r,h') → wpM G Mc.q34 (genQ Rs.q34 r h') [] (frInit Ks.q34 args) h) : GenOK Tryz.prog (gv1 m) Fn.q34 F :=
 gen_of (by kernel_rfl) hG Tryz.func203 rfl (ks := Ks.q34) (rs := Rs.q34) (by kernel_rfl) (by kernel_rfl) (Ok.q34 m) hF
theorem Ok.q44 (m : GvP) : (compC Tryz.prog (gv1 m) Ks.q44 Tryz.f204.ntmps [] (Tryz.f204.body.getD .skip) Dl.q44).1 = Mc.q44 := by kernel_rfl
theorem Gen.q44 {m : GvP} {G : Gam} (hG : GamOK Tryz.prog (gv1 m) G) {F : List AV → Heap → Option (AV × Heap)} (hF : ∀ args h r h',F args h = some (r,h') → wpM G Mc.q44 (genQ Rs.q44 r h') [] (frInit Ks.q44 args) h) : GenOK Tryz.prog (gv1 m) Fn.q44 F :=
 gen_of (by kernel_rfl) hG Tryz.func204 rfl (ks := Ks.q44) (rs := Rs.q44) (by kernel_rfl) (by kernel_rfl) (Ok.q44 m) hF
theorem Ok.q29 (m : GvP) : (compC Tryz.prog (gv1 m) Ks.q29 Tryz.f272.ntmps [] (Tryz.f272.body.getD .skip) Dl.q29).1 = Mc.q29 := by kernel_rfl
theorem Gen.q29 {m : GvP} {G : Gam} (hG : GamOK Tryz.prog (gv1 m) G) {F : List AV → Heap → Option (AV × Heap)} (hF : ∀ args h r h',F args h = some (r,h') → wpM G Mc.q29 (genQ Rs.q29 r h') [] (frInit Ks.q29 args) h) : GenOK Tryz.prog (gv1 m) Fn.q29 F :=
 gen_of (by kernel_rfl) hG Tryz.func272 rfl (ks := Ks.q29) (rs := Rs.q29) (by kernel_rfl) (by kernel_rfl) (Ok.q29 m) hF
theorem Ok.q35 (m : GvP) : (compC Tryz.prog (gv1 m) Ks.q35 Tryz.f273.ntmps [] (Tryz.f273.body.getD .skip) Dl.q35).1 = Mc.q35 := by kernel_rfl
theorem Gen.q35 {m : GvP} {G : Gam} (hG : GamOK Tryz.prog (gv1 m) G) {F : List AV → Heap → Option (AV × Heap)} (hF : ∀ args h r h',F args h = some (r,h') → wpM G Mc.q35 (genQ Rs.q35 r h') [] (frInit Ks.q35 args) h) : GenOK Tryz.prog (gv1 m) Fn.q35 F :=
 gen_of (by kernel_rfl) hG Tryz.func273 rfl (ks := Ks.q35) (rs := Rs.q35) (by kernel_rfl) (by kernel_rfl) (Ok.q35 m) hF
theorem Ok.q74 (m : GvP) : (compC Tryz.prog (gv1 m) Ks.q74 Tryz.f327.ntmps [] (Tryz.f327.body.getD .skip) Dl.q74).1 = Mc.q74 := by kernel_rfl
theorem Pure.q74 {m : GvP} {G : Gam} (hG : GamOK Tryz.prog (gv1 m) G) {F : List AV → Option AV} (hF : ∀ args r,F args = some r → wpM G Mc.q74 (pureQ Rs.q74 r) [] (frInit Ks.q74 args) []) : PureOK Tryz.prog (gv1 m) Fn.q74 F :=
 pure_of (by kernel_rfl) hG Tryz.func327 rfl (ks := Ks.q74) (rs := Rs.q74) (by kernel_rfl) (by kernel_rfl) (Ok.q74 m) hF
theorem Ok.q75 (m : GvP) : (compC Tryz.prog (gv1 m) Ks.q75 Tryz.f376.ntmps [] (Tryz.f376.body.getD .skip) Dl.q75).1 = Mc.q75 := by kernel_rfl
theorem Pure.q75 {m : GvP} {G : Gam} (hG : GamOK Tryz.prog (gv1 m) G) {F : List AV → Option AV} (hF : ∀ args r,F args = some r → wpM G Mc.q75 (pureQ Rs.q75 r) [] (frInit Ks.q75 args) []) : PureOK Tryz.prog (gv1 m) Fn.q75 F :=
 pure_of (by kernel_rfl) hG Tryz.func376 rfl (ks := Ks.q75) (rs := Rs.q75) (by kernel_rfl) (by kernel_rfl) (Ok.q75 m) hF
theorem Ok.q63 (m : GvP) : (compC Tryz.prog (gv1 m) Ks.q63 Tryz.f377.ntmps [] (Tryz.f377.body.getD .skip) Dl.q63).1 = Mc.q63 := by kernel_rfl
theorem Pure.q63 {m : GvP} {G : Gam} (hG : GamOK Tryz.prog (gv1 m) G) {F : List AV → Option AV} (hF : ∀ args r,F args = some r → wpM G Mc.q63 (pureQ Rs.q63 r) [] (frInit Ks.q63 args) []) : PureOK Tryz.prog (gv1 m) Fn.q63 F :=
 pure_of (by kernel_rfl) hG Tryz.func377 rfl (ks := Ks.q63) (rs := Rs.q63) (by kernel_rfl) (by kernel_rfl) (Ok.q63 m) hF
theorem Ok.q89 (m : GvP) : (compC Tryz.prog (gv1 m) Ks.q89 Tryz.f378.ntmps [] (Tryz.f378.body.getD .skip) Dl.q89).1 = Mc.q89 := by kernel_rfl
theorem Pure.q89 {m : GvP} {G : Gam} (hG : GamOK Tryz.prog (gv1 m) G) {F : List AV → Option AV} (hF : ∀ args r,F args = some r → wpM G Mc.q89 (pureQ Rs.q89 r) [] (frInit Ks.q89 args) []) : PureOK Tryz.prog (gv1 m) Fn.q89 F :=
 pure_of (by kernel_rfl) hG Tryz.func378 rfl (ks := Ks.q89) (rs := Rs.q89) (by kernel_rfl) (by kernel_rfl) (Ok.q89 m) hF
theorem Ok.q36 (m : GvP) : (compC Tryz.prog (gv1 m) Ks.q36 Tryz.f440.ntmps [] (Tryz.f440.body.getD .skip) Dl.q36).1 = Mc.q36 := by kernel_rfl
theorem Pure.q36 {m : GvP} {G : Gam} (hG : GamOK Tryz.prog (gv1 m) G) {F : List AV → Option AV} (hF : ∀ args r,F args = some r → wpM G Mc.q36 (pureQ Rs.q36 r) [] (frInit Ks.q36 args) []) : PureOK Tryz.prog (gv1 m) Fn.q36 F :=
 pure_of (by kernel_rfl) hG Tryz.func440 rfl (ks := Ks.q36) (rs := Rs.q36) (by kernel_rfl) (by kernel_rfl) (Ok.q36 m) hF
end Go.Proofs.YtaadifodgahnjaaGreatDoor
