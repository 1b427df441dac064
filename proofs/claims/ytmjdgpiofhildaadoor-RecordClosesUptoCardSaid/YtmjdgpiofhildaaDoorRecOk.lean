/- The resolved functions are the functions of the program. -/
import Derived.Test.YtmjdgpiofhildaaDoorRecMc
import Derived.Test.YtmjdgpiofhildaaDoorAbs23
import Derived.Test.YtmjdgpiofhildaaDoorChecked
import Derived.KernelRfl
namespace Go.Proofs.YtmjdgpiofhildaaDoor
/-- What is known of the package-level variables: bytealg.MaxLen holds a number. -/
def gv1 (m : Int) : Nat → Option (List AV) := fun g => if g = 0 then some [.int .i64 m] else none
theorem Ok.licitlaw17_RecordChecks (m : Int) : (compC Tryd.prog (gv1 m) Ks.licitlaw17_RecordChecks Tryd.f3.ntmps [] (Tryd.f3.body.getD .skip) Dl.licitlaw17_RecordChecks).1 = Mc.licitlaw17_RecordChecks := by kernel_rfl
theorem Pure.licitlaw17_RecordChecks {m : Int} {G : Gam} (hG : GamOK Tryd.prog (gv1 m) G) {F : List AV → Option AV} (hF : ∀ args r, F args = some r → wpM G Mc.licitlaw17_RecordChecks (pureQ Rs.licitlaw17_RecordChecks r) [] (frInit Ks.licitlaw17_RecordChecks args) []) : PureOK Tryd.prog (gv1 m) Fn.licitlaw17_RecordChecks F :=
  pure_of (by kernel_rfl) hG Tryd.func3 rfl (ks := Ks.licitlaw17_RecordChecks) (rs := Rs.licitlaw17_RecordChecks) (by kernel_rfl) (by kernel_rfl) (Ok.licitlaw17_RecordChecks m) hF
theorem Look.licitlaw17_RecordChecks {m : Int} {G : Gam} (hG : GamOK Tryd.prog (gv1 m) G) {F : List AV → Heap → Option AV} (hF : ∀ args h r, F args h = some r → wpM G Mc.licitlaw17_RecordChecks (lookQ Rs.licitlaw17_RecordChecks r h) [] (frInit Ks.licitlaw17_RecordChecks args) h) : GenOK Tryd.prog (gv1 m) Fn.licitlaw17_RecordChecks (lookF F) :=
  look_of (by kernel_rfl) hG Tryd.func3 rfl (ks := Ks.licitlaw17_RecordChecks) (rs := Rs.licitlaw17_RecordChecks) (by kernel_rfl) (by kernel_rfl) (Ok.licitlaw17_RecordChecks m) hF

theorem Ok.licitlaw17_RecordNeeds (m : Int) : (compC Tryd.prog (gv1 m) Ks.licitlaw17_RecordNeeds Tryd.f4.ntmps [] (Tryd.f4.body.getD .skip) Dl.licitlaw17_RecordNeeds).1 = Mc.licitlaw17_RecordNeeds := by kernel_rfl
theorem Pure.licitlaw17_RecordNeeds {m : Int} {G : Gam} (hG : GamOK Tryd.prog (gv1 m) G) {F : List AV → Option AV} (hF : ∀ args r, F args = some r → wpM G Mc.licitlaw17_RecordNeeds (pureQ Rs.licitlaw17_RecordNeeds r) [] (frInit Ks.licitlaw17_RecordNeeds args) []) : PureOK Tryd.prog (gv1 m) Fn.licitlaw17_RecordNeeds F :=
  pure_of (by kernel_rfl) hG Tryd.func4 rfl (ks := Ks.licitlaw17_RecordNeeds) (rs := Rs.licitlaw17_RecordNeeds) (by kernel_rfl) (by kernel_rfl) (Ok.licitlaw17_RecordNeeds m) hF
theorem Look.licitlaw17_RecordNeeds {m : Int} {G : Gam} (hG : GamOK Tryd.prog (gv1 m) G) {F : List AV → Heap → Option AV} (hF : ∀ args h r, F args h = some r → wpM G Mc.licitlaw17_RecordNeeds (lookQ Rs.licitlaw17_RecordNeeds r h) [] (frInit Ks.licitlaw17_RecordNeeds args) h) : GenOK Tryd.prog (gv1 m) Fn.licitlaw17_RecordNeeds (lookF F) :=
  look_of (by kernel_rfl) hG Tryd.func4 rfl (ks := Ks.licitlaw17_RecordNeeds) (rs := Rs.licitlaw17_RecordNeeds) (by kernel_rfl) (by kernel_rfl) (Ok.licitlaw17_RecordNeeds m) hF

theorem Ok.licitlaw17_RecordAffects (m : Int) : (compC Tryd.prog (gv1 m) Ks.licitlaw17_RecordAffects Tryd.f5.ntmps [] (Tryd.f5.body.getD .skip) Dl.licitlaw17_RecordAffects).1 = Mc.licitlaw17_RecordAffects := by kernel_rfl
theorem Pure.licitlaw17_RecordAffects {m : Int} {G : Gam} (hG : GamOK Tryd.prog (gv1 m) G) {F : List AV → Option AV} (hF : ∀ args r, F args = some r → wpM G Mc.licitlaw17_RecordAffects (pureQ Rs.licitlaw17_RecordAffects r) [] (frInit Ks.licitlaw17_RecordAffects args) []) : PureOK Tryd.prog (gv1 m) Fn.licitlaw17_RecordAffects F :=
  pure_of (by kernel_rfl) hG Tryd.func5 rfl (ks := Ks.licitlaw17_RecordAffects) (rs := Rs.licitlaw17_RecordAffects) (by kernel_rfl) (by kernel_rfl) (Ok.licitlaw17_RecordAffects m) hF
theorem Look.licitlaw17_RecordAffects {m : Int} {G : Gam} (hG : GamOK Tryd.prog (gv1 m) G) {F : List AV → Heap → Option AV} (hF : ∀ args h r, F args h = some r → wpM G Mc.licitlaw17_RecordAffects (lookQ Rs.licitlaw17_RecordAffects r h) [] (frInit Ks.licitlaw17_RecordAffects args) h) : GenOK Tryd.prog (gv1 m) Fn.licitlaw17_RecordAffects (lookF F) :=
  look_of (by kernel_rfl) hG Tryd.func5 rfl (ks := Ks.licitlaw17_RecordAffects) (rs := Rs.licitlaw17_RecordAffects) (by kernel_rfl) (by kernel_rfl) (Ok.licitlaw17_RecordAffects m) hF

theorem Ok.licitlaw17_RecordCloses (m : Int) : (compC Tryd.prog (gv1 m) Ks.licitlaw17_RecordCloses Tryd.f6.ntmps [] (Tryd.f6.body.getD .skip) Dl.licitlaw17_RecordCloses).1 = Mc.licitlaw17_RecordCloses := by kernel_rfl
theorem Pure.licitlaw17_RecordCloses {m : Int} {G : Gam} (hG : GamOK Tryd.prog (gv1 m) G) {F : List AV → Option AV} (hF : ∀ args r, F args = some r → wpM G Mc.licitlaw17_RecordCloses (pureQ Rs.licitlaw17_RecordCloses r) [] (frInit Ks.licitlaw17_RecordCloses args) []) : PureOK Tryd.prog (gv1 m) Fn.licitlaw17_RecordCloses F :=
  pure_of (by kernel_rfl) hG Tryd.func6 rfl (ks := Ks.licitlaw17_RecordCloses) (rs := Rs.licitlaw17_RecordCloses) (by kernel_rfl) (by kernel_rfl) (Ok.licitlaw17_RecordCloses m) hF
theorem Look.licitlaw17_RecordCloses {m : Int} {G : Gam} (hG : GamOK Tryd.prog (gv1 m) G) {F : List AV → Heap → Option AV} (hF : ∀ args h r, F args h = some r → wpM G Mc.licitlaw17_RecordCloses (lookQ Rs.licitlaw17_RecordCloses r h) [] (frInit Ks.licitlaw17_RecordCloses args) h) : GenOK Tryd.prog (gv1 m) Fn.licitlaw17_RecordCloses (lookF F) :=
  look_of (by kernel_rfl) hG Tryd.func6 rfl (ks := Ks.licitlaw17_RecordCloses) (rs := Rs.licitlaw17_RecordCloses) (by kernel_rfl) (by kernel_rfl) (Ok.licitlaw17_RecordCloses m) hF

theorem Ok.licitlaw17_awake (m : Int) : (compC Tryd.prog (gv1 m) Ks.licitlaw17_awake Tryd.f7.ntmps [] (Tryd.f7.body.getD .skip) Dl.licitlaw17_awake).1 = Mc.licitlaw17_awake := by kernel_rfl
theorem Pure.licitlaw17_awake {m : Int} {G : Gam} (hG : GamOK Tryd.prog (gv1 m) G) {F : List AV → Option AV} (hF : ∀ args r, F args = some r → wpM G Mc.licitlaw17_awake (pureQ Rs.licitlaw17_awake r) [] (frInit Ks.licitlaw17_awake args) []) : PureOK Tryd.prog (gv1 m) Fn.licitlaw17_awake F :=
  pure_of (by kernel_rfl) hG Tryd.func7 rfl (ks := Ks.licitlaw17_awake) (rs := Rs.licitlaw17_awake) (by kernel_rfl) (by kernel_rfl) (Ok.licitlaw17_awake m) hF
theorem Look.licitlaw17_awake {m : Int} {G : Gam} (hG : GamOK Tryd.prog (gv1 m) G) {F : List AV → Heap → Option AV} (hF : ∀ args h r, F args h = some r → wpM G Mc.licitlaw17_awake (lookQ Rs.licitlaw17_awake r h) [] (frInit Ks.licitlaw17_awake args) h) : GenOK Tryd.prog (gv1 m) Fn.licitlaw17_awake (lookF F) :=
  look_of (by kernel_rfl) hG Tryd.func7 rfl (ks := Ks.licitlaw17_awake) (rs := Rs.licitlaw17_awake) (by kernel_rfl) (by kernel_rfl) (Ok.licitlaw17_awake m) hF

theorem Ok.licitref17_Few (m : Int) : (compC Tryd.prog (gv1 m) Ks.licitref17_Few Tryd.f8.ntmps [] (Tryd.f8.body.getD .skip) Dl.licitref17_Few).1 = Mc.licitref17_Few := by kernel_rfl
theorem Pure.licitref17_Few {m : Int} {G : Gam} (hG : GamOK Tryd.prog (gv1 m) G) {F : List AV → Option AV} (hF : ∀ args r, F args = some r → wpM G Mc.licitref17_Few (pureQ Rs.licitref17_Few r) [] (frInit Ks.licitref17_Few args) []) : PureOK Tryd.prog (gv1 m) Fn.licitref17_Few F :=
  pure_of (by kernel_rfl) hG Tryd.func8 rfl (ks := Ks.licitref17_Few) (rs := Rs.licitref17_Few) (by kernel_rfl) (by kernel_rfl) (Ok.licitref17_Few m) hF
theorem Look.licitref17_Few {m : Int} {G : Gam} (hG : GamOK Tryd.prog (gv1 m) G) {F : List AV → Heap → Option AV} (hF : ∀ args h r, F args h = some r → wpM G Mc.licitref17_Few (lookQ Rs.licitref17_Few r h) [] (frInit Ks.licitref17_Few args) h) : GenOK Tryd.prog (gv1 m) Fn.licitref17_Few (lookF F) :=
  look_of (by kernel_rfl) hG Tryd.func8 rfl (ks := Ks.licitref17_Few) (rs := Rs.licitref17_Few) (by kernel_rfl) (by kernel_rfl) (Ok.licitref17_Few m) hF

theorem Ok.record_Check (m : Int) : (compC Tryd.prog (gv1 m) Ks.record_Check Tryd.f9.ntmps [] (Tryd.f9.body.getD .skip) Dl.record_Check).1 = Mc.record_Check := by kernel_rfl
theorem Pure.record_Check {m : Int} {G : Gam} (hG : GamOK Tryd.prog (gv1 m) G) {F : List AV → Option AV} (hF : ∀ args r, F args = some r → wpM G Mc.record_Check (pureQ Rs.record_Check r) [] (frInit Ks.record_Check args) []) : PureOK Tryd.prog (gv1 m) Fn.record_Check F :=
  pure_of (by kernel_rfl) hG Tryd.func9 rfl (ks := Ks.record_Check) (rs := Rs.record_Check) (by kernel_rfl) (by kernel_rfl) (Ok.record_Check m) hF
theorem Look.record_Check {m : Int} {G : Gam} (hG : GamOK Tryd.prog (gv1 m) G) {F : List AV → Heap → Option AV} (hF : ∀ args h r, F args h = some r → wpM G Mc.record_Check (lookQ Rs.record_Check r h) [] (frInit Ks.record_Check args) h) : GenOK Tryd.prog (gv1 m) Fn.record_Check (lookF F) :=
  look_of (by kernel_rfl) hG Tryd.func9 rfl (ks := Ks.record_Check) (rs := Rs.record_Check) (by kernel_rfl) (by kernel_rfl) (Ok.record_Check m) hF

theorem Ok.licitref17_Check (m : Int) : (compC Tryd.prog (gv1 m) Ks.licitref17_Check Tryd.f10.ntmps [] (Tryd.f10.body.getD .skip) Dl.licitref17_Check).1 = Mc.licitref17_Check := by kernel_rfl
theorem Pure.licitref17_Check {m : Int} {G : Gam} (hG : GamOK Tryd.prog (gv1 m) G) {F : List AV → Option AV} (hF : ∀ args r, F args = some r → wpM G Mc.licitref17_Check (pureQ Rs.licitref17_Check r) [] (frInit Ks.licitref17_Check args) []) : PureOK Tryd.prog (gv1 m) Fn.licitref17_Check F :=
  pure_of (by kernel_rfl) hG Tryd.func10 rfl (ks := Ks.licitref17_Check) (rs := Rs.licitref17_Check) (by kernel_rfl) (by kernel_rfl) (Ok.licitref17_Check m) hF
theorem Look.licitref17_Check {m : Int} {G : Gam} (hG : GamOK Tryd.prog (gv1 m) G) {F : List AV → Heap → Option AV} (hF : ∀ args h r, F args h = some r → wpM G Mc.licitref17_Check (lookQ Rs.licitref17_Check r h) [] (frInit Ks.licitref17_Check args) h) : GenOK Tryd.prog (gv1 m) Fn.licitref17_Check (lookF F) :=
  look_of (by kernel_rfl) hG Tryd.func10 rfl (ks := Ks.licitref17_Check) (rs := Rs.licitref17_Check) (by kernel_rfl) (by kernel_rfl) (Ok.licitref17_Check m) hF

theorem Ok.record_Writer (m : Int) : (compC Tryd.prog (gv1 m) Ks.record_Writer Tryd.f11.ntmps [] (Tryd.f11.body.getD .skip) Dl.record_Writer).1 = Mc.record_Writer := by kernel_rfl
theorem Pure.record_Writer {m : Int} {G : Gam} (hG : GamOK Tryd.prog (gv1 m) G) {F : List AV → Option AV} (hF : ∀ args r, F args = some r → wpM G Mc.record_Writer (pureQ Rs.record_Writer r) [] (frInit Ks.record_Writer args) []) : PureOK Tryd.prog (gv1 m) Fn.record_Writer F :=
  pure_of (by kernel_rfl) hG Tryd.func11 rfl (ks := Ks.record_Writer) (rs := Rs.record_Writer) (by kernel_rfl) (by kernel_rfl) (Ok.record_Writer m) hF
theorem Look.record_Writer {m : Int} {G : Gam} (hG : GamOK Tryd.prog (gv1 m) G) {F : List AV → Heap → Option AV} (hF : ∀ args h r, F args h = some r → wpM G Mc.record_Writer (lookQ Rs.record_Writer r h) [] (frInit Ks.record_Writer args) h) : GenOK Tryd.prog (gv1 m) Fn.record_Writer (lookF F) :=
  look_of (by kernel_rfl) hG Tryd.func11 rfl (ks := Ks.record_Writer) (rs := Rs.record_Writer) (by kernel_rfl) (by kernel_rfl) (Ok.record_Writer m) hF

theorem Ok.licitref17_Writer (m : Int) : (compC Tryd.prog (gv1 m) Ks.licitref17_Writer Tryd.f12.ntmps [] (Tryd.f12.body.getD .skip) Dl.licitref17_Writer).1 = Mc.licitref17_Writer := by kernel_rfl
theorem Pure.licitref17_Writer {m : Int} {G : Gam} (hG : GamOK Tryd.prog (gv1 m) G) {F : List AV → Option AV} (hF : ∀ args r, F args = some r → wpM G Mc.licitref17_Writer (pureQ Rs.licitref17_Writer r) [] (frInit Ks.licitref17_Writer args) []) : PureOK Tryd.prog (gv1 m) Fn.licitref17_Writer F :=
  pure_of (by kernel_rfl) hG Tryd.func12 rfl (ks := Ks.licitref17_Writer) (rs := Rs.licitref17_Writer) (by kernel_rfl) (by kernel_rfl) (Ok.licitref17_Writer m) hF
theorem Look.licitref17_Writer {m : Int} {G : Gam} (hG : GamOK Tryd.prog (gv1 m) G) {F : List AV → Heap → Option AV} (hF : ∀ args h r, F args h = some r → wpM G Mc.licitref17_Writer (lookQ Rs.licitref17_Writer r h) [] (frInit Ks.licitref17_Writer args) h) : GenOK Tryd.prog (gv1 m) Fn.licitref17_Writer (lookF F) :=
  look_of (by kernel_rfl) hG Tryd.func12 rfl (ks := Ks.licitref17_Writer) (rs := Rs.licitref17_Writer) (by kernel_rfl) (by kernel_rfl) (Ok.licitref17_Writer m) hF

theorem Ok.slices_Equal___int_int_ (m : Int) : (compC Tryd.prog (gv1 m) Ks.slices_Equal___int_int_ Tryd.f13.ntmps [] (Tryd.f13.body.getD .skip) Dl.slices_Equal___int_int_).1 = Mc.slices_Equal___int_int_ := by kernel_rfl
theorem Pure.slices_Equal___int_int_ {m : Int} {G : Gam} (hG : GamOK Tryd.prog (gv1 m) G) {F : List AV → Option AV} (hF : ∀ args r, F args = some r → wpM G Mc.slices_Equal___int_int_ (pureQ Rs.slices_Equal___int_int_ r) [] (frInit Ks.slices_Equal___int_int_ args) []) : PureOK Tryd.prog (gv1 m) Fn.slices_Equal___int_int_ F :=
  pure_of (by kernel_rfl) hG Tryd.func13 rfl (ks := Ks.slices_Equal___int_int_) (rs := Rs.slices_Equal___int_int_) (by kernel_rfl) (by kernel_rfl) (Ok.slices_Equal___int_int_ m) hF
theorem Look.slices_Equal___int_int_ {m : Int} {G : Gam} (hG : GamOK Tryd.prog (gv1 m) G) {F : List AV → Heap → Option AV} (hF : ∀ args h r, F args h = some r → wpM G Mc.slices_Equal___int_int_ (lookQ Rs.slices_Equal___int_int_ r h) [] (frInit Ks.slices_Equal___int_int_ args) h) : GenOK Tryd.prog (gv1 m) Fn.slices_Equal___int_int_ (lookF F) :=
  look_of (by kernel_rfl) hG Tryd.func13 rfl (ks := Ks.slices_Equal___int_int_) (rs := Rs.slices_Equal___int_int_) (by kernel_rfl) (by kernel_rfl) (Ok.slices_Equal___int_int_ m) hF

theorem Ok.record_Needed (m : Int) : (compC Tryd.prog (gv1 m) Ks.record_Needed Tryd.f14.ntmps [] (Tryd.f14.body.getD .skip) Dl.record_Needed).1 = Mc.record_Needed := by kernel_rfl
theorem Pure.record_Needed {m : Int} {G : Gam} (hG : GamOK Tryd.prog (gv1 m) G) {F : List AV → Option AV} (hF : ∀ args r, F args = some r → wpM G Mc.record_Needed (pureQ Rs.record_Needed r) [] (frInit Ks.record_Needed args) []) : PureOK Tryd.prog (gv1 m) Fn.record_Needed F :=
  pure_of (by kernel_rfl) hG Tryd.func14 rfl (ks := Ks.record_Needed) (rs := Rs.record_Needed) (by kernel_rfl) (by kernel_rfl) (Ok.record_Needed m) hF
theorem Look.record_Needed {m : Int} {G : Gam} (hG : GamOK Tryd.prog (gv1 m) G) {F : List AV → Heap → Option AV} (hF : ∀ args h r, F args h = some r → wpM G Mc.record_Needed (lookQ Rs.record_Needed r h) [] (frInit Ks.record_Needed args) h) : GenOK Tryd.prog (gv1 m) Fn.record_Needed (lookF F) :=
  look_of (by kernel_rfl) hG Tryd.func14 rfl (ks := Ks.record_Needed) (rs := Rs.record_Needed) (by kernel_rfl) (by kernel_rfl) (Ok.record_Needed m) hF

theorem Ok.licitref17_Needed (m : Int) : (compC Tryd.prog (gv1 m) Ks.licitref17_Needed Tryd.f15.ntmps [] (Tryd.f15.body.getD .skip) Dl.licitref17_Needed).1 = Mc.licitref17_Needed := by kernel_rfl
theorem Pure.licitref17_Needed {m : Int} {G : Gam} (hG : GamOK Tryd.prog (gv1 m) G) {F : List AV → Option AV} (hF : ∀ args r, F args = some r → wpM G Mc.licitref17_Needed (pureQ Rs.licitref17_Needed r) [] (frInit Ks.licitref17_Needed args) []) : PureOK Tryd.prog (gv1 m) Fn.licitref17_Needed F :=
  pure_of (by kernel_rfl) hG Tryd.func15 rfl (ks := Ks.licitref17_Needed) (rs := Rs.licitref17_Needed) (by kernel_rfl) (by kernel_rfl) (Ok.licitref17_Needed m) hF
theorem Look.licitref17_Needed {m : Int} {G : Gam} (hG : GamOK Tryd.prog (gv1 m) G) {F : List AV → Heap → Option AV} (hF : ∀ args h r, F args h = some r → wpM G Mc.licitref17_Needed (lookQ Rs.licitref17_Needed r h) [] (frInit Ks.licitref17_Needed args) h) : GenOK Tryd.prog (gv1 m) Fn.licitref17_Needed (lookF F) :=
  look_of (by kernel_rfl) hG Tryd.func15 rfl (ks := Ks.licitref17_Needed) (rs := Rs.licitref17_Needed) (by kernel_rfl) (by kernel_rfl) (Ok.licitref17_Needed m) hF

theorem Ok.slices_Equal___string_string_ (m : Int) : (compC Tryd.prog (gv1 m) Ks.slices_Equal___string_string_ Tryd.f16.ntmps [] (Tryd.f16.body.getD .skip) Dl.slices_Equal___string_string_).1 = Mc.slices_Equal___string_string_ := by kernel_rfl
theorem Pure.slices_Equal___string_string_ {m : Int} {G : Gam} (hG : GamOK Tryd.prog (gv1 m) G) {F : List AV → Option AV} (hF : ∀ args r, F args = some r → wpM G Mc.slices_Equal___string_string_ (pureQ Rs.slices_Equal___string_string_ r) [] (frInit Ks.slices_Equal___string_string_ args) []) : PureOK Tryd.prog (gv1 m) Fn.slices_Equal___string_string_ F :=
  pure_of (by kernel_rfl) hG Tryd.func16 rfl (ks := Ks.slices_Equal___string_string_) (rs := Rs.slices_Equal___string_string_) (by kernel_rfl) (by kernel_rfl) (Ok.slices_Equal___string_string_ m) hF
theorem Look.slices_Equal___string_string_ {m : Int} {G : Gam} (hG : GamOK Tryd.prog (gv1 m) G) {F : List AV → Heap → Option AV} (hF : ∀ args h r, F args h = some r → wpM G Mc.slices_Equal___string_string_ (lookQ Rs.slices_Equal___string_string_ r h) [] (frInit Ks.slices_Equal___string_string_ args) h) : GenOK Tryd.prog (gv1 m) Fn.slices_Equal___string_string_ (lookF F) :=
  look_of (by kernel_rfl) hG Tryd.func16 rfl (ks := Ks.slices_Equal___string_string_) (rs := Rs.slices_Equal___string_string_) (by kernel_rfl) (by kernel_rfl) (Ok.slices_Equal___string_string_ m) hF

theorem Ok.record_Sources (m : Int) : (compC Tryd.prog (gv1 m) Ks.record_Sources Tryd.f17.ntmps [] (Tryd.f17.body.getD .skip) Dl.record_Sources).1 = Mc.record_Sources := by kernel_rfl
theorem Pure.record_Sources {m : Int} {G : Gam} (hG : GamOK Tryd.prog (gv1 m) G) {F : List AV → Option AV} (hF : ∀ args r, F args = some r → wpM G Mc.record_Sources (pureQ Rs.record_Sources r) [] (frInit Ks.record_Sources args) []) : PureOK Tryd.prog (gv1 m) Fn.record_Sources F :=
  pure_of (by kernel_rfl) hG Tryd.func17 rfl (ks := Ks.record_Sources) (rs := Rs.record_Sources) (by kernel_rfl) (by kernel_rfl) (Ok.record_Sources m) hF
theorem Look.record_Sources {m : Int} {G : Gam} (hG : GamOK Tryd.prog (gv1 m) G) {F : List AV → Heap → Option AV} (hF : ∀ args h r, F args h = some r → wpM G Mc.record_Sources (lookQ Rs.record_Sources r h) [] (frInit Ks.record_Sources args) h) : GenOK Tryd.prog (gv1 m) Fn.record_Sources (lookF F) :=
  look_of (by kernel_rfl) hG Tryd.func17 rfl (ks := Ks.record_Sources) (rs := Rs.record_Sources) (by kernel_rfl) (by kernel_rfl) (Ok.record_Sources m) hF

theorem Ok.licitref17_Sources (m : Int) : (compC Tryd.prog (gv1 m) Ks.licitref17_Sources Tryd.f18.ntmps [] (Tryd.f18.body.getD .skip) Dl.licitref17_Sources).1 = Mc.licitref17_Sources := by kernel_rfl
theorem Pure.licitref17_Sources {m : Int} {G : Gam} (hG : GamOK Tryd.prog (gv1 m) G) {F : List AV → Option AV} (hF : ∀ args r, F args = some r → wpM G Mc.licitref17_Sources (pureQ Rs.licitref17_Sources r) [] (frInit Ks.licitref17_Sources args) []) : PureOK Tryd.prog (gv1 m) Fn.licitref17_Sources F :=
  pure_of (by kernel_rfl) hG Tryd.func18 rfl (ks := Ks.licitref17_Sources) (rs := Rs.licitref17_Sources) (by kernel_rfl) (by kernel_rfl) (Ok.licitref17_Sources m) hF
theorem Look.licitref17_Sources {m : Int} {G : Gam} (hG : GamOK Tryd.prog (gv1 m) G) {F : List AV → Heap → Option AV} (hF : ∀ args h r, F args h = some r → wpM G Mc.licitref17_Sources (lookQ Rs.licitref17_Sources r h) [] (frInit Ks.licitref17_Sources args) h) : GenOK Tryd.prog (gv1 m) Fn.licitref17_Sources (lookF F) :=
  look_of (by kernel_rfl) hG Tryd.func18 rfl (ks := Ks.licitref17_Sources) (rs := Rs.licitref17_Sources) (by kernel_rfl) (by kernel_rfl) (Ok.licitref17_Sources m) hF

theorem Ok.record_Affected (m : Int) : (compC Tryd.prog (gv1 m) Ks.record_Affected Tryd.f19.ntmps [] (Tryd.f19.body.getD .skip) Dl.record_Affected).1 = Mc.record_Affected := by kernel_rfl
theorem Pure.record_Affected {m : Int} {G : Gam} (hG : GamOK Tryd.prog (gv1 m) G) {F : List AV → Option AV} (hF : ∀ args r, F args = some r → wpM G Mc.record_Affected (pureQ Rs.record_Affected r) [] (frInit Ks.record_Affected args) []) : PureOK Tryd.prog (gv1 m) Fn.record_Affected F :=
  pure_of (by kernel_rfl) hG Tryd.func19 rfl (ks := Ks.record_Affected) (rs := Rs.record_Affected) (by kernel_rfl) (by kernel_rfl) (Ok.record_Affected m) hF
theorem Look.record_Affected {m : Int} {G : Gam} (hG : GamOK Tryd.prog (gv1 m) G) {F : List AV → Heap → Option AV} (hF : ∀ args h r, F args h = some r → wpM G Mc.record_Affected (lookQ Rs.record_Affected r h) [] (frInit Ks.record_Affected args) h) : GenOK Tryd.prog (gv1 m) Fn.record_Affected (lookF F) :=
  look_of (by kernel_rfl) hG Tryd.func19 rfl (ks := Ks.record_Affected) (rs := Rs.record_Affected) (by kernel_rfl) (by kernel_rfl) (Ok.record_Affected m) hF

theorem Ok.licitref17_Affected (m : Int) : (compC Tryd.prog (gv1 m) Ks.licitref17_Affected Tryd.f20.ntmps [] (Tryd.f20.body.getD .skip) Dl.licitref17_Affected).1 = Mc.licitref17_Affected := by kernel_rfl
theorem Pure.licitref17_Affected {m : Int} {G : Gam} (hG : GamOK Tryd.prog (gv1 m) G) {F : List AV → Option AV} (hF : ∀ args r, F args = some r → wpM G Mc.licitref17_Affected (pureQ Rs.licitref17_Affected r) [] (frInit Ks.licitref17_Affected args) []) : PureOK Tryd.prog (gv1 m) Fn.licitref17_Affected F :=
  pure_of (by kernel_rfl) hG Tryd.func20 rfl (ks := Ks.licitref17_Affected) (rs := Rs.licitref17_Affected) (by kernel_rfl) (by kernel_rfl) (Ok.licitref17_Affected m) hF
theorem Look.licitref17_Affected {m : Int} {G : Gam} (hG : GamOK Tryd.prog (gv1 m) G) {F : List AV → Heap → Option AV} (hF : ∀ args h r, F args h = some r → wpM G Mc.licitref17_Affected (lookQ Rs.licitref17_Affected r h) [] (frInit Ks.licitref17_Affected args) h) : GenOK Tryd.prog (gv1 m) Fn.licitref17_Affected (lookF F) :=
  look_of (by kernel_rfl) hG Tryd.func20 rfl (ks := Ks.licitref17_Affected) (rs := Rs.licitref17_Affected) (by kernel_rfl) (by kernel_rfl) (Ok.licitref17_Affected m) hF

theorem Ok.record_Diverge (m : Int) : (compC Tryd.prog (gv1 m) Ks.record_Diverge Tryd.f21.ntmps [] (Tryd.f21.body.getD .skip) Dl.record_Diverge).1 = Mc.record_Diverge := by kernel_rfl
theorem Pure.record_Diverge {m : Int} {G : Gam} (hG : GamOK Tryd.prog (gv1 m) G) {F : List AV → Option AV} (hF : ∀ args r, F args = some r → wpM G Mc.record_Diverge (pureQ Rs.record_Diverge r) [] (frInit Ks.record_Diverge args) []) : PureOK Tryd.prog (gv1 m) Fn.record_Diverge F :=
  pure_of (by kernel_rfl) hG Tryd.func21 rfl (ks := Ks.record_Diverge) (rs := Rs.record_Diverge) (by kernel_rfl) (by kernel_rfl) (Ok.record_Diverge m) hF
theorem Look.record_Diverge {m : Int} {G : Gam} (hG : GamOK Tryd.prog (gv1 m) G) {F : List AV → Heap → Option AV} (hF : ∀ args h r, F args h = some r → wpM G Mc.record_Diverge (lookQ Rs.record_Diverge r h) [] (frInit Ks.record_Diverge args) h) : GenOK Tryd.prog (gv1 m) Fn.record_Diverge (lookF F) :=
  look_of (by kernel_rfl) hG Tryd.func21 rfl (ks := Ks.record_Diverge) (rs := Rs.record_Diverge) (by kernel_rfl) (by kernel_rfl) (Ok.record_Diverge m) hF

theorem Ok.licitref17_Diverge (m : Int) : (compC Tryd.prog (gv1 m) Ks.licitref17_Diverge Tryd.f22.ntmps [] (Tryd.f22.body.getD .skip) Dl.licitref17_Diverge).1 = Mc.licitref17_Diverge := by kernel_rfl
theorem Pure.licitref17_Diverge {m : Int} {G : Gam} (hG : GamOK Tryd.prog (gv1 m) G) {F : List AV → Option AV} (hF : ∀ args r, F args = some r → wpM G Mc.licitref17_Diverge (pureQ Rs.licitref17_Diverge r) [] (frInit Ks.licitref17_Diverge args) []) : PureOK Tryd.prog (gv1 m) Fn.licitref17_Diverge F :=
  pure_of (by kernel_rfl) hG Tryd.func22 rfl (ks := Ks.licitref17_Diverge) (rs := Rs.licitref17_Diverge) (by kernel_rfl) (by kernel_rfl) (Ok.licitref17_Diverge m) hF
theorem Look.licitref17_Diverge {m : Int} {G : Gam} (hG : GamOK Tryd.prog (gv1 m) G) {F : List AV → Heap → Option AV} (hF : ∀ args h r, F args h = some r → wpM G Mc.licitref17_Diverge (lookQ Rs.licitref17_Diverge r h) [] (frInit Ks.licitref17_Diverge args) h) : GenOK Tryd.prog (gv1 m) Fn.licitref17_Diverge (lookF F) :=
  look_of (by kernel_rfl) hG Tryd.func22 rfl (ks := Ks.licitref17_Diverge) (rs := Rs.licitref17_Diverge) (by kernel_rfl) (by kernel_rfl) (Ok.licitref17_Diverge m) hF

theorem Ok.slices_IsSorted___string_string_ (m : Int) : (compC Tryd.prog (gv1 m) Ks.slices_IsSorted___string_string_ Tryd.f23.ntmps [] (Tryd.f23.body.getD .skip) Dl.slices_IsSorted___string_string_).1 = Mc.slices_IsSorted___string_string_ := by kernel_rfl
theorem Pure.slices_IsSorted___string_string_ {m : Int} {G : Gam} (hG : GamOK Tryd.prog (gv1 m) G) {F : List AV → Option AV} (hF : ∀ args r, F args = some r → wpM G Mc.slices_IsSorted___string_string_ (pureQ Rs.slices_IsSorted___string_string_ r) [] (frInit Ks.slices_IsSorted___string_string_ args) []) : PureOK Tryd.prog (gv1 m) Fn.slices_IsSorted___string_string_ F :=
  pure_of (by kernel_rfl) hG Tryd.func23 rfl (ks := Ks.slices_IsSorted___string_string_) (rs := Rs.slices_IsSorted___string_string_) (by kernel_rfl) (by kernel_rfl) (Ok.slices_IsSorted___string_string_ m) hF
theorem Look.slices_IsSorted___string_string_ {m : Int} {G : Gam} (hG : GamOK Tryd.prog (gv1 m) G) {F : List AV → Heap → Option AV} (hF : ∀ args h r, F args h = some r → wpM G Mc.slices_IsSorted___string_string_ (lookQ Rs.slices_IsSorted___string_string_ r h) [] (frInit Ks.slices_IsSorted___string_string_ args) h) : GenOK Tryd.prog (gv1 m) Fn.slices_IsSorted___string_string_ (lookF F) :=
  look_of (by kernel_rfl) hG Tryd.func23 rfl (ks := Ks.slices_IsSorted___string_string_) (rs := Rs.slices_IsSorted___string_string_) (by kernel_rfl) (by kernel_rfl) (Ok.slices_IsSorted___string_string_ m) hF

theorem Ok.slices_Contains___string_string_ (m : Int) : (compC Tryd.prog (gv1 m) Ks.slices_Contains___string_string_ Tryd.f24.ntmps [] (Tryd.f24.body.getD .skip) Dl.slices_Contains___string_string_).1 = Mc.slices_Contains___string_string_ := by kernel_rfl
theorem Pure.slices_Contains___string_string_ {m : Int} {G : Gam} (hG : GamOK Tryd.prog (gv1 m) G) {F : List AV → Option AV} (hF : ∀ args r, F args = some r → wpM G Mc.slices_Contains___string_string_ (pureQ Rs.slices_Contains___string_string_ r) [] (frInit Ks.slices_Contains___string_string_ args) []) : PureOK Tryd.prog (gv1 m) Fn.slices_Contains___string_string_ F :=
  pure_of (by kernel_rfl) hG Tryd.func24 rfl (ks := Ks.slices_Contains___string_string_) (rs := Rs.slices_Contains___string_string_) (by kernel_rfl) (by kernel_rfl) (Ok.slices_Contains___string_string_ m) hF
theorem Look.slices_Contains___string_string_ {m : Int} {G : Gam} (hG : GamOK Tryd.prog (gv1 m) G) {F : List AV → Heap → Option AV} (hF : ∀ args h r, F args h = some r → wpM G Mc.slices_Contains___string_string_ (lookQ Rs.slices_Contains___string_string_ r h) [] (frInit Ks.slices_Contains___string_string_ args) h) : GenOK Tryd.prog (gv1 m) Fn.slices_Contains___string_string_ (lookF F) :=
  look_of (by kernel_rfl) hG Tryd.func24 rfl (ks := Ks.slices_Contains___string_string_) (rs := Rs.slices_Contains___string_string_) (by kernel_rfl) (by kernel_rfl) (Ok.slices_Contains___string_string_ m) hF

theorem Ok.slices_Contains___int_int_ (m : Int) : (compC Tryd.prog (gv1 m) Ks.slices_Contains___int_int_ Tryd.f25.ntmps [] (Tryd.f25.body.getD .skip) Dl.slices_Contains___int_int_).1 = Mc.slices_Contains___int_int_ := by kernel_rfl
theorem Pure.slices_Contains___int_int_ {m : Int} {G : Gam} (hG : GamOK Tryd.prog (gv1 m) G) {F : List AV → Option AV} (hF : ∀ args r, F args = some r → wpM G Mc.slices_Contains___int_int_ (pureQ Rs.slices_Contains___int_int_ r) [] (frInit Ks.slices_Contains___int_int_ args) []) : PureOK Tryd.prog (gv1 m) Fn.slices_Contains___int_int_ F :=
  pure_of (by kernel_rfl) hG Tryd.func25 rfl (ks := Ks.slices_Contains___int_int_) (rs := Rs.slices_Contains___int_int_) (by kernel_rfl) (by kernel_rfl) (Ok.slices_Contains___int_int_ m) hF
theorem Look.slices_Contains___int_int_ {m : Int} {G : Gam} (hG : GamOK Tryd.prog (gv1 m) G) {F : List AV → Heap → Option AV} (hF : ∀ args h r, F args h = some r → wpM G Mc.slices_Contains___int_int_ (lookQ Rs.slices_Contains___int_int_ r h) [] (frInit Ks.slices_Contains___int_int_ args) h) : GenOK Tryd.prog (gv1 m) Fn.slices_Contains___int_int_ (lookF F) :=
  look_of (by kernel_rfl) hG Tryd.func25 rfl (ks := Ks.slices_Contains___int_int_) (rs := Rs.slices_Contains___int_int_) (by kernel_rfl) (by kernel_rfl) (Ok.slices_Contains___int_int_ m) hF

theorem Ok.licitlaw17_example (m : Int) : (compC Tryd.prog (gv1 m) Ks.licitlaw17_example Tryd.f26.ntmps [] (Tryd.f26.body.getD .skip) Dl.licitlaw17_example).1 = Mc.licitlaw17_example := by kernel_rfl
theorem Pure.licitlaw17_example {m : Int} {G : Gam} (hG : GamOK Tryd.prog (gv1 m) G) {F : List AV → Option AV} (hF : ∀ args r, F args = some r → wpM G Mc.licitlaw17_example (pureQ Rs.licitlaw17_example r) [] (frInit Ks.licitlaw17_example args) []) : PureOK Tryd.prog (gv1 m) Fn.licitlaw17_example F :=
  pure_of (by kernel_rfl) hG Tryd.func26 rfl (ks := Ks.licitlaw17_example) (rs := Rs.licitlaw17_example) (by kernel_rfl) (by kernel_rfl) (Ok.licitlaw17_example m) hF
theorem Look.licitlaw17_example {m : Int} {G : Gam} (hG : GamOK Tryd.prog (gv1 m) G) {F : List AV → Heap → Option AV} (hF : ∀ args h r, F args h = some r → wpM G Mc.licitlaw17_example (lookQ Rs.licitlaw17_example r h) [] (frInit Ks.licitlaw17_example args) h) : GenOK Tryd.prog (gv1 m) Fn.licitlaw17_example (lookF F) :=
  look_of (by kernel_rfl) hG Tryd.func26 rfl (ks := Ks.licitlaw17_example) (rs := Rs.licitlaw17_example) (by kernel_rfl) (by kernel_rfl) (Ok.licitlaw17_example m) hF

theorem Ok.record_files (m : Int) : (compC Tryd.prog (gv1 m) Ks.record_files Tryd.f27.ntmps [] (Tryd.f27.body.getD .skip) Dl.record_files).1 = Mc.record_files := by kernel_rfl
theorem Pure.record_files {m : Int} {G : Gam} (hG : GamOK Tryd.prog (gv1 m) G) {F : List AV → Option AV} (hF : ∀ args r, F args = some r → wpM G Mc.record_files (pureQ Rs.record_files r) [] (frInit Ks.record_files args) []) : PureOK Tryd.prog (gv1 m) Fn.record_files F :=
  pure_of (by kernel_rfl) hG Tryd.func27 rfl (ks := Ks.record_files) (rs := Rs.record_files) (by kernel_rfl) (by kernel_rfl) (Ok.record_files m) hF
theorem Look.record_files {m : Int} {G : Gam} (hG : GamOK Tryd.prog (gv1 m) G) {F : List AV → Heap → Option AV} (hF : ∀ args h r, F args h = some r → wpM G Mc.record_files (lookQ Rs.record_files r h) [] (frInit Ks.record_files args) h) : GenOK Tryd.prog (gv1 m) Fn.record_files (lookF F) :=
  look_of (by kernel_rfl) hG Tryd.func27 rfl (ks := Ks.record_files) (rs := Rs.record_files) (by kernel_rfl) (by kernel_rfl) (Ok.record_files m) hF

theorem Ok.licitref17_step (m : Int) : (compC Tryd.prog (gv1 m) Ks.licitref17_step Tryd.f28.ntmps [] (Tryd.f28.body.getD .skip) Dl.licitref17_step).1 = Mc.licitref17_step := by kernel_rfl
theorem Pure.licitref17_step {m : Int} {G : Gam} (hG : GamOK Tryd.prog (gv1 m) G) {F : List AV → Option AV} (hF : ∀ args r, F args = some r → wpM G Mc.licitref17_step (pureQ Rs.licitref17_step r) [] (frInit Ks.licitref17_step args) []) : PureOK Tryd.prog (gv1 m) Fn.licitref17_step F :=
  pure_of (by kernel_rfl) hG Tryd.func28 rfl (ks := Ks.licitref17_step) (rs := Rs.licitref17_step) (by kernel_rfl) (by kernel_rfl) (Ok.licitref17_step m) hF
theorem Look.licitref17_step {m : Int} {G : Gam} (hG : GamOK Tryd.prog (gv1 m) G) {F : List AV → Heap → Option AV} (hF : ∀ args h r, F args h = some r → wpM G Mc.licitref17_step (lookQ Rs.licitref17_step r h) [] (frInit Ks.licitref17_step args) h) : GenOK Tryd.prog (gv1 m) Fn.licitref17_step (lookF F) :=
  look_of (by kernel_rfl) hG Tryd.func28 rfl (ks := Ks.licitref17_step) (rs := Rs.licitref17_step) (by kernel_rfl) (by kernel_rfl) (Ok.licitref17_step m) hF

theorem Ok.slices_IndexFunc_api_Record_api_Done_ (m : Int) : (compC Tryd.prog (gv1 m) Ks.slices_IndexFunc_api_Record_api_Done_ Tryd.f29.ntmps [] (Tryd.f29.body.getD .skip) Dl.slices_IndexFunc_api_Record_api_Done_).1 = Mc.slices_IndexFunc_api_Record_api_Done_ := by kernel_rfl
theorem Pure.slices_IndexFunc_api_Record_api_Done_ {m : Int} {G : Gam} (hG : GamOK Tryd.prog (gv1 m) G) {F : List AV → Option AV} (hF : ∀ args r, F args = some r → wpM G Mc.slices_IndexFunc_api_Record_api_Done_ (pureQ Rs.slices_IndexFunc_api_Record_api_Done_ r) [] (frInit Ks.slices_IndexFunc_api_Record_api_Done_ args) []) : PureOK Tryd.prog (gv1 m) Fn.slices_IndexFunc_api_Record_api_Done_ F :=
  pure_of (by kernel_rfl) hG Tryd.func29 rfl (ks := Ks.slices_IndexFunc_api_Record_api_Done_) (rs := Rs.slices_IndexFunc_api_Record_api_Done_) (by kernel_rfl) (by kernel_rfl) (Ok.slices_IndexFunc_api_Record_api_Done_ m) hF
theorem Look.slices_IndexFunc_api_Record_api_Done_ {m : Int} {G : Gam} (hG : GamOK Tryd.prog (gv1 m) G) {F : List AV → Heap → Option AV} (hF : ∀ args h r, F args h = some r → wpM G Mc.slices_IndexFunc_api_Record_api_Done_ (lookQ Rs.slices_IndexFunc_api_Record_api_Done_ r h) [] (frInit Ks.slices_IndexFunc_api_Record_api_Done_ args) h) : GenOK Tryd.prog (gv1 m) Fn.slices_IndexFunc_api_Record_api_Done_ (lookF F) :=
  look_of (by kernel_rfl) hG Tryd.func29 rfl (ks := Ks.slices_IndexFunc_api_Record_api_Done_) (rs := Rs.slices_IndexFunc_api_Record_api_Done_) (by kernel_rfl) (by kernel_rfl) (Ok.slices_IndexFunc_api_Record_api_Done_ m) hF

theorem Ok.record_Writer_1 (m : Int) : (compC Tryd.prog (gv1 m) Ks.record_Writer_1 Tryd.f30.ntmps [] (Tryd.f30.body.getD .skip) Dl.record_Writer_1).1 = Mc.record_Writer_1 := by kernel_rfl
theorem Pure.record_Writer_1 {m : Int} {G : Gam} (hG : GamOK Tryd.prog (gv1 m) G) {F : List AV → Option AV} (hF : ∀ args r, F args = some r → wpM G Mc.record_Writer_1 (pureQ Rs.record_Writer_1 r) [] (frInit Ks.record_Writer_1 args) []) : PureOK Tryd.prog (gv1 m) Fn.record_Writer_1 F :=
  pure_of (by kernel_rfl) hG Tryd.func30 rfl (ks := Ks.record_Writer_1) (rs := Rs.record_Writer_1) (by kernel_rfl) (by kernel_rfl) (Ok.record_Writer_1 m) hF
theorem Look.record_Writer_1 {m : Int} {G : Gam} (hG : GamOK Tryd.prog (gv1 m) G) {F : List AV → Heap → Option AV} (hF : ∀ args h r, F args h = some r → wpM G Mc.record_Writer_1 (lookQ Rs.record_Writer_1 r h) [] (frInit Ks.record_Writer_1 args) h) : GenOK Tryd.prog (gv1 m) Fn.record_Writer_1 (lookF F) :=
  look_of (by kernel_rfl) hG Tryd.func30 rfl (ks := Ks.record_Writer_1) (rs := Rs.record_Writer_1) (by kernel_rfl) (by kernel_rfl) (Ok.record_Writer_1 m) hF

theorem Ok.licitref17_wrote (m : Int) : (compC Tryd.prog (gv1 m) Ks.licitref17_wrote Tryd.f31.ntmps [] (Tryd.f31.body.getD .skip) Dl.licitref17_wrote).1 = Mc.licitref17_wrote := by kernel_rfl
theorem Pure.licitref17_wrote {m : Int} {G : Gam} (hG : GamOK Tryd.prog (gv1 m) G) {F : List AV → Option AV} (hF : ∀ args r, F args = some r → wpM G Mc.licitref17_wrote (pureQ Rs.licitref17_wrote r) [] (frInit Ks.licitref17_wrote args) []) : PureOK Tryd.prog (gv1 m) Fn.licitref17_wrote F :=
  pure_of (by kernel_rfl) hG Tryd.func31 rfl (ks := Ks.licitref17_wrote) (rs := Rs.licitref17_wrote) (by kernel_rfl) (by kernel_rfl) (Ok.licitref17_wrote m) hF
theorem Look.licitref17_wrote {m : Int} {G : Gam} (hG : GamOK Tryd.prog (gv1 m) G) {F : List AV → Heap → Option AV} (hF : ∀ args h r, F args h = some r → wpM G Mc.licitref17_wrote (lookQ Rs.licitref17_wrote r h) [] (frInit Ks.licitref17_wrote args) h) : GenOK Tryd.prog (gv1 m) Fn.licitref17_wrote (lookF F) :=
  look_of (by kernel_rfl) hG Tryd.func31 rfl (ks := Ks.licitref17_wrote) (rs := Rs.licitref17_wrote) (by kernel_rfl) (by kernel_rfl) (Ok.licitref17_wrote m) hF

theorem Ok.record_needed (m : Int) : (compC Tryd.prog (gv1 m) Ks.record_needed Tryd.f32.ntmps [] (Tryd.f32.body.getD .skip) Dl.record_needed).1 = Mc.record_needed := by kernel_rfl
theorem Pure.record_needed {m : Int} {G : Gam} (hG : GamOK Tryd.prog (gv1 m) G) {F : List AV → Option AV} (hF : ∀ args r, F args = some r → wpM G Mc.record_needed (pureQ Rs.record_needed r) [] (frInit Ks.record_needed args) []) : PureOK Tryd.prog (gv1 m) Fn.record_needed F :=
  pure_of (by kernel_rfl) hG Tryd.func32 rfl (ks := Ks.record_needed) (rs := Rs.record_needed) (by kernel_rfl) (by kernel_rfl) (Ok.record_needed m) hF
theorem Look.record_needed {m : Int} {G : Gam} (hG : GamOK Tryd.prog (gv1 m) G) {F : List AV → Heap → Option AV} (hF : ∀ args h r, F args h = some r → wpM G Mc.record_needed (lookQ Rs.record_needed r h) [] (frInit Ks.record_needed args) h) : GenOK Tryd.prog (gv1 m) Fn.record_needed (lookF F) :=
  look_of (by kernel_rfl) hG Tryd.func32 rfl (ks := Ks.record_needed) (rs := Rs.record_needed) (by kernel_rfl) (by kernel_rfl) (Ok.record_needed m) hF

theorem Ok.licitref17_marks (m : Int) : (compC Tryd.prog (gv1 m) Ks.licitref17_marks Tryd.f33.ntmps [] (Tryd.f33.body.getD .skip) Dl.licitref17_marks).1 = Mc.licitref17_marks := by kernel_rfl
theorem Pure.licitref17_marks {m : Int} {G : Gam} (hG : GamOK Tryd.prog (gv1 m) G) {F : List AV → Option AV} (hF : ∀ args r, F args = some r → wpM G Mc.licitref17_marks (pureQ Rs.licitref17_marks r) [] (frInit Ks.licitref17_marks args) []) : PureOK Tryd.prog (gv1 m) Fn.licitref17_marks F :=
  pure_of (by kernel_rfl) hG Tryd.func33 rfl (ks := Ks.licitref17_marks) (rs := Rs.licitref17_marks) (by kernel_rfl) (by kernel_rfl) (Ok.licitref17_marks m) hF
theorem Look.licitref17_marks {m : Int} {G : Gam} (hG : GamOK Tryd.prog (gv1 m) G) {F : List AV → Heap → Option AV} (hF : ∀ args h r, F args h = some r → wpM G Mc.licitref17_marks (lookQ Rs.licitref17_marks r h) [] (frInit Ks.licitref17_marks args) h) : GenOK Tryd.prog (gv1 m) Fn.licitref17_marks (lookF F) :=
  look_of (by kernel_rfl) hG Tryd.func33 rfl (ks := Ks.licitref17_marks) (rs := Rs.licitref17_marks) (by kernel_rfl) (by kernel_rfl) (Ok.licitref17_marks m) hF

theorem Ok.licitref17_Insert (m : Int) : (compC Tryd.prog (gv1 m) Ks.licitref17_Insert Tryd.f36.ntmps [] (Tryd.f36.body.getD .skip) Dl.licitref17_Insert).1 = Mc.licitref17_Insert := by kernel_rfl
theorem Pure.licitref17_Insert {m : Int} {G : Gam} (hG : GamOK Tryd.prog (gv1 m) G) {F : List AV → Option AV} (hF : ∀ args r, F args = some r → wpM G Mc.licitref17_Insert (pureQ Rs.licitref17_Insert r) [] (frInit Ks.licitref17_Insert args) []) : PureOK Tryd.prog (gv1 m) Fn.licitref17_Insert F :=
  pure_of (by kernel_rfl) hG Tryd.func36 rfl (ks := Ks.licitref17_Insert) (rs := Rs.licitref17_Insert) (by kernel_rfl) (by kernel_rfl) (Ok.licitref17_Insert m) hF
theorem Look.licitref17_Insert {m : Int} {G : Gam} (hG : GamOK Tryd.prog (gv1 m) G) {F : List AV → Heap → Option AV} (hF : ∀ args h r, F args h = some r → wpM G Mc.licitref17_Insert (lookQ Rs.licitref17_Insert r h) [] (frInit Ks.licitref17_Insert args) h) : GenOK Tryd.prog (gv1 m) Fn.licitref17_Insert (lookF F) :=
  look_of (by kernel_rfl) hG Tryd.func36 rfl (ks := Ks.licitref17_Insert) (rs := Rs.licitref17_Insert) (by kernel_rfl) (by kernel_rfl) (Ok.licitref17_Insert m) hF

theorem Ok.slices_ContainsFunc___api_Touch_api_Touch_ (m : Int) : (compC Tryd.prog (gv1 m) Ks.slices_ContainsFunc___api_Touch_api_Touch_ Tryd.f37.ntmps [] (Tryd.f37.body.getD .skip) Dl.slices_ContainsFunc___api_Touch_api_Touch_).1 = Mc.slices_ContainsFunc___api_Touch_api_Touch_ := by kernel_rfl
theorem Pure.slices_ContainsFunc___api_Touch_api_Touch_ {m : Int} {G : Gam} (hG : GamOK Tryd.prog (gv1 m) G) {F : List AV → Option AV} (hF : ∀ args r, F args = some r → wpM G Mc.slices_ContainsFunc___api_Touch_api_Touch_ (pureQ Rs.slices_ContainsFunc___api_Touch_api_Touch_ r) [] (frInit Ks.slices_ContainsFunc___api_Touch_api_Touch_ args) []) : PureOK Tryd.prog (gv1 m) Fn.slices_ContainsFunc___api_Touch_api_Touch_ F :=
  pure_of (by kernel_rfl) hG Tryd.func37 rfl (ks := Ks.slices_ContainsFunc___api_Touch_api_Touch_) (rs := Rs.slices_ContainsFunc___api_Touch_api_Touch_) (by kernel_rfl) (by kernel_rfl) (Ok.slices_ContainsFunc___api_Touch_api_Touch_ m) hF
theorem Look.slices_ContainsFunc___api_Touch_api_Touch_ {m : Int} {G : Gam} (hG : GamOK Tryd.prog (gv1 m) G) {F : List AV → Heap → Option AV} (hF : ∀ args h r, F args h = some r → wpM G Mc.slices_ContainsFunc___api_Touch_api_Touch_ (lookQ Rs.slices_ContainsFunc___api_Touch_api_Touch_ r h) [] (frInit Ks.slices_ContainsFunc___api_Touch_api_Touch_ args) h) : GenOK Tryd.prog (gv1 m) Fn.slices_ContainsFunc___api_Touch_api_Touch_ (lookF F) :=
  look_of (by kernel_rfl) hG Tryd.func37 rfl (ks := Ks.slices_ContainsFunc___api_Touch_api_Touch_) (rs := Rs.slices_ContainsFunc___api_Touch_api_Touch_) (by kernel_rfl) (by kernel_rfl) (Ok.slices_ContainsFunc___api_Touch_api_Touch_ m) hF

theorem Ok.record_Affected_1 (m : Int) : (compC Tryd.prog (gv1 m) Ks.record_Affected_1 Tryd.f38.ntmps [] (Tryd.f38.body.getD .skip) Dl.record_Affected_1).1 = Mc.record_Affected_1 := by kernel_rfl
theorem Pure.record_Affected_1 {m : Int} {G : Gam} (hG : GamOK Tryd.prog (gv1 m) G) {F : List AV → Option AV} (hF : ∀ args r, F args = some r → wpM G Mc.record_Affected_1 (pureQ Rs.record_Affected_1 r) [] (frInit Ks.record_Affected_1 args) []) : PureOK Tryd.prog (gv1 m) Fn.record_Affected_1 F :=
  pure_of (by kernel_rfl) hG Tryd.func38 rfl (ks := Ks.record_Affected_1) (rs := Rs.record_Affected_1) (by kernel_rfl) (by kernel_rfl) (Ok.record_Affected_1 m) hF
theorem Look.record_Affected_1 {m : Int} {G : Gam} (hG : GamOK Tryd.prog (gv1 m) G) {F : List AV → Heap → Option AV} (hF : ∀ args h r, F args h = some r → wpM G Mc.record_Affected_1 (lookQ Rs.record_Affected_1 r h) [] (frInit Ks.record_Affected_1 args) h) : GenOK Tryd.prog (gv1 m) Fn.record_Affected_1 (lookF F) :=
  look_of (by kernel_rfl) hG Tryd.func38 rfl (ks := Ks.record_Affected_1) (rs := Rs.record_Affected_1) (by kernel_rfl) (by kernel_rfl) (Ok.record_Affected_1 m) hF

theorem Ok.licitref17_among (m : Int) : (compC Tryd.prog (gv1 m) Ks.licitref17_among Tryd.f39.ntmps [] (Tryd.f39.body.getD .skip) Dl.licitref17_among).1 = Mc.licitref17_among := by kernel_rfl
theorem Pure.licitref17_among {m : Int} {G : Gam} (hG : GamOK Tryd.prog (gv1 m) G) {F : List AV → Option AV} (hF : ∀ args r, F args = some r → wpM G Mc.licitref17_among (pureQ Rs.licitref17_among r) [] (frInit Ks.licitref17_among args) []) : PureOK Tryd.prog (gv1 m) Fn.licitref17_among F :=
  pure_of (by kernel_rfl) hG Tryd.func39 rfl (ks := Ks.licitref17_among) (rs := Rs.licitref17_among) (by kernel_rfl) (by kernel_rfl) (Ok.licitref17_among m) hF
theorem Look.licitref17_among {m : Int} {G : Gam} (hG : GamOK Tryd.prog (gv1 m) G) {F : List AV → Heap → Option AV} (hF : ∀ args h r, F args h = some r → wpM G Mc.licitref17_among (lookQ Rs.licitref17_among r h) [] (frInit Ks.licitref17_among args) h) : GenOK Tryd.prog (gv1 m) Fn.licitref17_among (lookF F) :=
  look_of (by kernel_rfl) hG Tryd.func39 rfl (ks := Ks.licitref17_among) (rs := Rs.licitref17_among) (by kernel_rfl) (by kernel_rfl) (Ok.licitref17_among m) hF

theorem Ok.record_equal (m : Int) : (compC Tryd.prog (gv1 m) Ks.record_equal Tryd.f40.ntmps [] (Tryd.f40.body.getD .skip) Dl.record_equal).1 = Mc.record_equal := by kernel_rfl
theorem Pure.record_equal {m : Int} {G : Gam} (hG : GamOK Tryd.prog (gv1 m) G) {F : List AV → Option AV} (hF : ∀ args r, F args = some r → wpM G Mc.record_equal (pureQ Rs.record_equal r) [] (frInit Ks.record_equal args) []) : PureOK Tryd.prog (gv1 m) Fn.record_equal F :=
  pure_of (by kernel_rfl) hG Tryd.func40 rfl (ks := Ks.record_equal) (rs := Rs.record_equal) (by kernel_rfl) (by kernel_rfl) (Ok.record_equal m) hF
theorem Look.record_equal {m : Int} {G : Gam} (hG : GamOK Tryd.prog (gv1 m) G) {F : List AV → Heap → Option AV} (hF : ∀ args h r, F args h = some r → wpM G Mc.record_equal (lookQ Rs.record_equal r h) [] (frInit Ks.record_equal args) h) : GenOK Tryd.prog (gv1 m) Fn.record_equal (lookF F) :=
  look_of (by kernel_rfl) hG Tryd.func40 rfl (ks := Ks.record_equal) (rs := Rs.record_equal) (by kernel_rfl) (by kernel_rfl) (Ok.record_equal m) hF

theorem Ok.licitref17_Equal (m : Int) : (compC Tryd.prog (gv1 m) Ks.licitref17_Equal Tryd.f41.ntmps [] (Tryd.f41.body.getD .skip) Dl.licitref17_Equal).1 = Mc.licitref17_Equal := by kernel_rfl
theorem Pure.licitref17_Equal {m : Int} {G : Gam} (hG : GamOK Tryd.prog (gv1 m) G) {F : List AV → Option AV} (hF : ∀ args r, F args = some r → wpM G Mc.licitref17_Equal (pureQ Rs.licitref17_Equal r) [] (frInit Ks.licitref17_Equal args) []) : PureOK Tryd.prog (gv1 m) Fn.licitref17_Equal F :=
  pure_of (by kernel_rfl) hG Tryd.func41 rfl (ks := Ks.licitref17_Equal) (rs := Rs.licitref17_Equal) (by kernel_rfl) (by kernel_rfl) (Ok.licitref17_Equal m) hF
theorem Look.licitref17_Equal {m : Int} {G : Gam} (hG : GamOK Tryd.prog (gv1 m) G) {F : List AV → Heap → Option AV} (hF : ∀ args h r, F args h = some r → wpM G Mc.licitref17_Equal (lookQ Rs.licitref17_Equal r h) [] (frInit Ks.licitref17_Equal args) h) : GenOK Tryd.prog (gv1 m) Fn.licitref17_Equal (lookF F) :=
  look_of (by kernel_rfl) hG Tryd.func41 rfl (ks := Ks.licitref17_Equal) (rs := Rs.licitref17_Equal) (by kernel_rfl) (by kernel_rfl) (Ok.licitref17_Equal m) hF

theorem Ok.cmp_Less_string_ (m : Int) : (compC Tryd.prog (gv1 m) Ks.cmp_Less_string_ Tryd.f42.ntmps [] (Tryd.f42.body.getD .skip) Dl.cmp_Less_string_).1 = Mc.cmp_Less_string_ := by kernel_rfl
theorem Pure.cmp_Less_string_ {m : Int} {G : Gam} (hG : GamOK Tryd.prog (gv1 m) G) {F : List AV → Option AV} (hF : ∀ args r, F args = some r → wpM G Mc.cmp_Less_string_ (pureQ Rs.cmp_Less_string_ r) [] (frInit Ks.cmp_Less_string_ args) []) : PureOK Tryd.prog (gv1 m) Fn.cmp_Less_string_ F :=
  pure_of (by kernel_rfl) hG Tryd.func42 rfl (ks := Ks.cmp_Less_string_) (rs := Rs.cmp_Less_string_) (by kernel_rfl) (by kernel_rfl) (Ok.cmp_Less_string_ m) hF
theorem Look.cmp_Less_string_ {m : Int} {G : Gam} (hG : GamOK Tryd.prog (gv1 m) G) {F : List AV → Heap → Option AV} (hF : ∀ args h r, F args h = some r → wpM G Mc.cmp_Less_string_ (lookQ Rs.cmp_Less_string_ r h) [] (frInit Ks.cmp_Less_string_ args) h) : GenOK Tryd.prog (gv1 m) Fn.cmp_Less_string_ (lookF F) :=
  look_of (by kernel_rfl) hG Tryd.func42 rfl (ks := Ks.cmp_Less_string_) (rs := Rs.cmp_Less_string_) (by kernel_rfl) (by kernel_rfl) (Ok.cmp_Less_string_ m) hF

theorem Ok.slices_Index___string_string_ (m : Int) : (compC Tryd.prog (gv1 m) Ks.slices_Index___string_string_ Tryd.f43.ntmps [] (Tryd.f43.body.getD .skip) Dl.slices_Index___string_string_).1 = Mc.slices_Index___string_string_ := by kernel_rfl
theorem Pure.slices_Index___string_string_ {m : Int} {G : Gam} (hG : GamOK Tryd.prog (gv1 m) G) {F : List AV → Option AV} (hF : ∀ args r, F args = some r → wpM G Mc.slices_Index___string_string_ (pureQ Rs.slices_Index___string_string_ r) [] (frInit Ks.slices_Index___string_string_ args) []) : PureOK Tryd.prog (gv1 m) Fn.slices_Index___string_string_ F :=
  pure_of (by kernel_rfl) hG Tryd.func43 rfl (ks := Ks.slices_Index___string_string_) (rs := Rs.slices_Index___string_string_) (by kernel_rfl) (by kernel_rfl) (Ok.slices_Index___string_string_ m) hF
theorem Look.slices_Index___string_string_ {m : Int} {G : Gam} (hG : GamOK Tryd.prog (gv1 m) G) {F : List AV → Heap → Option AV} (hF : ∀ args h r, F args h = some r → wpM G Mc.slices_Index___string_string_ (lookQ Rs.slices_Index___string_string_ r h) [] (frInit Ks.slices_Index___string_string_ args) h) : GenOK Tryd.prog (gv1 m) Fn.slices_Index___string_string_ (lookF F) :=
  look_of (by kernel_rfl) hG Tryd.func43 rfl (ks := Ks.slices_Index___string_string_) (rs := Rs.slices_Index___string_string_) (by kernel_rfl) (by kernel_rfl) (Ok.slices_Index___string_string_ m) hF

theorem Ok.slices_Index___int_int_ (m : Int) : (compC Tryd.prog (gv1 m) Ks.slices_Index___int_int_ Tryd.f44.ntmps [] (Tryd.f44.body.getD .skip) Dl.slices_Index___int_int_).1 = Mc.slices_Index___int_int_ := by kernel_rfl
theorem Pure.slices_Index___int_int_ {m : Int} {G : Gam} (hG : GamOK Tryd.prog (gv1 m) G) {F : List AV → Option AV} (hF : ∀ args r, F args = some r → wpM G Mc.slices_Index___int_int_ (pureQ Rs.slices_Index___int_int_ r) [] (frInit Ks.slices_Index___int_int_ args) []) : PureOK Tryd.prog (gv1 m) Fn.slices_Index___int_int_ F :=
  pure_of (by kernel_rfl) hG Tryd.func44 rfl (ks := Ks.slices_Index___int_int_) (rs := Rs.slices_Index___int_int_) (by kernel_rfl) (by kernel_rfl) (Ok.slices_Index___int_int_ m) hF
theorem Look.slices_Index___int_int_ {m : Int} {G : Gam} (hG : GamOK Tryd.prog (gv1 m) G) {F : List AV → Heap → Option AV} (hF : ∀ args h r, F args h = some r → wpM G Mc.slices_Index___int_int_ (lookQ Rs.slices_Index___int_int_ r h) [] (frInit Ks.slices_Index___int_int_ args) h) : GenOK Tryd.prog (gv1 m) Fn.slices_Index___int_int_ (lookF F) :=
  look_of (by kernel_rfl) hG Tryd.func44 rfl (ks := Ks.slices_Index___int_int_) (rs := Rs.slices_Index___int_int_) (by kernel_rfl) (by kernel_rfl) (Ok.slices_Index___int_int_ m) hF

theorem Ok.licitlaw17_touch (m : Int) : (compC Tryd.prog (gv1 m) Ks.licitlaw17_touch Tryd.f45.ntmps [] (Tryd.f45.body.getD .skip) Dl.licitlaw17_touch).1 = Mc.licitlaw17_touch := by kernel_rfl
theorem Pure.licitlaw17_touch {m : Int} {G : Gam} (hG : GamOK Tryd.prog (gv1 m) G) {F : List AV → Option AV} (hF : ∀ args r, F args = some r → wpM G Mc.licitlaw17_touch (pureQ Rs.licitlaw17_touch r) [] (frInit Ks.licitlaw17_touch args) []) : PureOK Tryd.prog (gv1 m) Fn.licitlaw17_touch F :=
  pure_of (by kernel_rfl) hG Tryd.func45 rfl (ks := Ks.licitlaw17_touch) (rs := Rs.licitlaw17_touch) (by kernel_rfl) (by kernel_rfl) (Ok.licitlaw17_touch m) hF
theorem Look.licitlaw17_touch {m : Int} {G : Gam} (hG : GamOK Tryd.prog (gv1 m) G) {F : List AV → Heap → Option AV} (hF : ∀ args h r, F args h = some r → wpM G Mc.licitlaw17_touch (lookQ Rs.licitlaw17_touch r h) [] (frInit Ks.licitlaw17_touch args) h) : GenOK Tryd.prog (gv1 m) Fn.licitlaw17_touch (lookF F) :=
  look_of (by kernel_rfl) hG Tryd.func45 rfl (ks := Ks.licitlaw17_touch) (rs := Rs.licitlaw17_touch) (by kernel_rfl) (by kernel_rfl) (Ok.licitlaw17_touch m) hF

theorem Ok.record_touched (m : Int) : (compC Tryd.prog (gv1 m) Ks.record_touched Tryd.f46.ntmps [] (Tryd.f46.body.getD .skip) Dl.record_touched).1 = Mc.record_touched := by kernel_rfl
theorem Pure.record_touched {m : Int} {G : Gam} (hG : GamOK Tryd.prog (gv1 m) G) {F : List AV → Option AV} (hF : ∀ args r, F args = some r → wpM G Mc.record_touched (pureQ Rs.record_touched r) [] (frInit Ks.record_touched args) []) : PureOK Tryd.prog (gv1 m) Fn.record_touched F :=
  pure_of (by kernel_rfl) hG Tryd.func46 rfl (ks := Ks.record_touched) (rs := Rs.record_touched) (by kernel_rfl) (by kernel_rfl) (Ok.record_touched m) hF
theorem Look.record_touched {m : Int} {G : Gam} (hG : GamOK Tryd.prog (gv1 m) G) {F : List AV → Heap → Option AV} (hF : ∀ args h r, F args h = some r → wpM G Mc.record_touched (lookQ Rs.record_touched r h) [] (frInit Ks.record_touched args) h) : GenOK Tryd.prog (gv1 m) Fn.record_touched (lookF F) :=
  look_of (by kernel_rfl) hG Tryd.func46 rfl (ks := Ks.record_touched) (rs := Rs.record_touched) (by kernel_rfl) (by kernel_rfl) (Ok.record_touched m) hF

theorem Ok.licitref16_Path (m : Int) : (compC Tryd.prog (gv1 m) Ks.licitref16_Path Tryd.f47.ntmps [] (Tryd.f47.body.getD .skip) Dl.licitref16_Path).1 = Mc.licitref16_Path := by kernel_rfl
theorem Pure.licitref16_Path {m : Int} {G : Gam} (hG : GamOK Tryd.prog (gv1 m) G) {F : List AV → Option AV} (hF : ∀ args r, F args = some r → wpM G Mc.licitref16_Path (pureQ Rs.licitref16_Path r) [] (frInit Ks.licitref16_Path args) []) : PureOK Tryd.prog (gv1 m) Fn.licitref16_Path F :=
  pure_of (by kernel_rfl) hG Tryd.func47 rfl (ks := Ks.licitref16_Path) (rs := Rs.licitref16_Path) (by kernel_rfl) (by kernel_rfl) (Ok.licitref16_Path m) hF
theorem Look.licitref16_Path {m : Int} {G : Gam} (hG : GamOK Tryd.prog (gv1 m) G) {F : List AV → Heap → Option AV} (hF : ∀ args h r, F args h = some r → wpM G Mc.licitref16_Path (lookQ Rs.licitref16_Path r h) [] (frInit Ks.licitref16_Path args) h) : GenOK Tryd.prog (gv1 m) Fn.licitref16_Path (lookF F) :=
  look_of (by kernel_rfl) hG Tryd.func47 rfl (ks := Ks.licitref16_Path) (rs := Rs.licitref16_Path) (by kernel_rfl) (by kernel_rfl) (Ok.licitref16_Path m) hF

theorem Ok.licitref17_touched (m : Int) : (compC Tryd.prog (gv1 m) Ks.licitref17_touched Tryd.f48.ntmps [] (Tryd.f48.body.getD .skip) Dl.licitref17_touched).1 = Mc.licitref17_touched := by kernel_rfl
theorem Pure.licitref17_touched {m : Int} {G : Gam} (hG : GamOK Tryd.prog (gv1 m) G) {F : List AV → Option AV} (hF : ∀ args r, F args = some r → wpM G Mc.licitref17_touched (pureQ Rs.licitref17_touched r) [] (frInit Ks.licitref17_touched args) []) : PureOK Tryd.prog (gv1 m) Fn.licitref17_touched F :=
  pure_of (by kernel_rfl) hG Tryd.func48 rfl (ks := Ks.licitref17_touched) (rs := Rs.licitref17_touched) (by kernel_rfl) (by kernel_rfl) (Ok.licitref17_touched m) hF
theorem Look.licitref17_touched {m : Int} {G : Gam} (hG : GamOK Tryd.prog (gv1 m) G) {F : List AV → Heap → Option AV} (hF : ∀ args h r, F args h = some r → wpM G Mc.licitref17_touched (lookQ Rs.licitref17_touched r h) [] (frInit Ks.licitref17_touched args) h) : GenOK Tryd.prog (gv1 m) Fn.licitref17_touched (lookF F) :=
  look_of (by kernel_rfl) hG Tryd.func48 rfl (ks := Ks.licitref17_touched) (rs := Rs.licitref17_touched) (by kernel_rfl) (by kernel_rfl) (Ok.licitref17_touched m) hF

theorem Ok.slices_IndexFunc___api_Touch_api_Touch_ (m : Int) : (compC Tryd.prog (gv1 m) Ks.slices_IndexFunc___api_Touch_api_Touch_ Tryd.f51.ntmps [] (Tryd.f51.body.getD .skip) Dl.slices_IndexFunc___api_Touch_api_Touch_).1 = Mc.slices_IndexFunc___api_Touch_api_Touch_ := by kernel_rfl
theorem Pure.slices_IndexFunc___api_Touch_api_Touch_ {m : Int} {G : Gam} (hG : GamOK Tryd.prog (gv1 m) G) {F : List AV → Option AV} (hF : ∀ args r, F args = some r → wpM G Mc.slices_IndexFunc___api_Touch_api_Touch_ (pureQ Rs.slices_IndexFunc___api_Touch_api_Touch_ r) [] (frInit Ks.slices_IndexFunc___api_Touch_api_Touch_ args) []) : PureOK Tryd.prog (gv1 m) Fn.slices_IndexFunc___api_Touch_api_Touch_ F :=
  pure_of (by kernel_rfl) hG Tryd.func51 rfl (ks := Ks.slices_IndexFunc___api_Touch_api_Touch_) (rs := Rs.slices_IndexFunc___api_Touch_api_Touch_) (by kernel_rfl) (by kernel_rfl) (Ok.slices_IndexFunc___api_Touch_api_Touch_ m) hF
theorem Look.slices_IndexFunc___api_Touch_api_Touch_ {m : Int} {G : Gam} (hG : GamOK Tryd.prog (gv1 m) G) {F : List AV → Heap → Option AV} (hF : ∀ args h r, F args h = some r → wpM G Mc.slices_IndexFunc___api_Touch_api_Touch_ (lookQ Rs.slices_IndexFunc___api_Touch_api_Touch_ r h) [] (frInit Ks.slices_IndexFunc___api_Touch_api_Touch_ args) h) : GenOK Tryd.prog (gv1 m) Fn.slices_IndexFunc___api_Touch_api_Touch_ (lookF F) :=
  look_of (by kernel_rfl) hG Tryd.func51 rfl (ks := Ks.slices_IndexFunc___api_Touch_api_Touch_) (rs := Rs.slices_IndexFunc___api_Touch_api_Touch_) (by kernel_rfl) (by kernel_rfl) (Ok.slices_IndexFunc___api_Touch_api_Touch_ m) hF

theorem Ok.slices_Equal___api_Touch_api_Touch_ (m : Int) : (compC Tryd.prog (gv1 m) Ks.slices_Equal___api_Touch_api_Touch_ Tryd.f52.ntmps [] (Tryd.f52.body.getD .skip) Dl.slices_Equal___api_Touch_api_Touch_).1 = Mc.slices_Equal___api_Touch_api_Touch_ := by kernel_rfl
theorem Pure.slices_Equal___api_Touch_api_Touch_ {m : Int} {G : Gam} (hG : GamOK Tryd.prog (gv1 m) G) {F : List AV → Option AV} (hF : ∀ args r, F args = some r → wpM G Mc.slices_Equal___api_Touch_api_Touch_ (pureQ Rs.slices_Equal___api_Touch_api_Touch_ r) [] (frInit Ks.slices_Equal___api_Touch_api_Touch_ args) []) : PureOK Tryd.prog (gv1 m) Fn.slices_Equal___api_Touch_api_Touch_ F :=
  pure_of (by kernel_rfl) hG Tryd.func52 rfl (ks := Ks.slices_Equal___api_Touch_api_Touch_) (rs := Rs.slices_Equal___api_Touch_api_Touch_) (by kernel_rfl) (by kernel_rfl) (Ok.slices_Equal___api_Touch_api_Touch_ m) hF
theorem Look.slices_Equal___api_Touch_api_Touch_ {m : Int} {G : Gam} (hG : GamOK Tryd.prog (gv1 m) G) {F : List AV → Heap → Option AV} (hF : ∀ args h r, F args h = some r → wpM G Mc.slices_Equal___api_Touch_api_Touch_ (lookQ Rs.slices_Equal___api_Touch_api_Touch_ r h) [] (frInit Ks.slices_Equal___api_Touch_api_Touch_ args) h) : GenOK Tryd.prog (gv1 m) Fn.slices_Equal___api_Touch_api_Touch_ (lookF F) :=
  look_of (by kernel_rfl) hG Tryd.func52 rfl (ks := Ks.slices_Equal___api_Touch_api_Touch_) (rs := Rs.slices_Equal___api_Touch_api_Touch_) (by kernel_rfl) (by kernel_rfl) (Ok.slices_Equal___api_Touch_api_Touch_ m) hF

theorem Ok.cmp_isNaN_string_ (m : Int) : (compC Tryd.prog (gv1 m) Ks.cmp_isNaN_string_ Tryd.f53.ntmps [] (Tryd.f53.body.getD .skip) Dl.cmp_isNaN_string_).1 = Mc.cmp_isNaN_string_ := by kernel_rfl
theorem Pure.cmp_isNaN_string_ {m : Int} {G : Gam} (hG : GamOK Tryd.prog (gv1 m) G) {F : List AV → Option AV} (hF : ∀ args r, F args = some r → wpM G Mc.cmp_isNaN_string_ (pureQ Rs.cmp_isNaN_string_ r) [] (frInit Ks.cmp_isNaN_string_ args) []) : PureOK Tryd.prog (gv1 m) Fn.cmp_isNaN_string_ F :=
  pure_of (by kernel_rfl) hG Tryd.func53 rfl (ks := Ks.cmp_isNaN_string_) (rs := Rs.cmp_isNaN_string_) (by kernel_rfl) (by kernel_rfl) (Ok.cmp_isNaN_string_ m) hF
theorem Look.cmp_isNaN_string_ {m : Int} {G : Gam} (hG : GamOK Tryd.prog (gv1 m) G) {F : List AV → Heap → Option AV} (hF : ∀ args h r, F args h = some r → wpM G Mc.cmp_isNaN_string_ (lookQ Rs.cmp_isNaN_string_ r h) [] (frInit Ks.cmp_isNaN_string_ args) h) : GenOK Tryd.prog (gv1 m) Fn.cmp_isNaN_string_ (lookF F) :=
  look_of (by kernel_rfl) hG Tryd.func53 rfl (ks := Ks.cmp_isNaN_string_) (rs := Rs.cmp_isNaN_string_) (by kernel_rfl) (by kernel_rfl) (Ok.cmp_isNaN_string_ m) hF

theorem Ok.tree_Path (m : Int) : (compC Tryd.prog (gv1 m) Ks.tree_Path Tryd.f55.ntmps [] (Tryd.f55.body.getD .skip) Dl.tree_Path).1 = Mc.tree_Path := by kernel_rfl
theorem Pure.tree_Path {m : Int} {G : Gam} (hG : GamOK Tryd.prog (gv1 m) G) {F : List AV → Option AV} (hF : ∀ args r, F args = some r → wpM G Mc.tree_Path (pureQ Rs.tree_Path r) [] (frInit Ks.tree_Path args) []) : PureOK Tryd.prog (gv1 m) Fn.tree_Path F :=
  pure_of (by kernel_rfl) hG Tryd.func55 rfl (ks := Ks.tree_Path) (rs := Rs.tree_Path) (by kernel_rfl) (by kernel_rfl) (Ok.tree_Path m) hF
theorem Look.tree_Path {m : Int} {G : Gam} (hG : GamOK Tryd.prog (gv1 m) G) {F : List AV → Heap → Option AV} (hF : ∀ args h r, F args h = some r → wpM G Mc.tree_Path (lookQ Rs.tree_Path r h) [] (frInit Ks.tree_Path args) h) : GenOK Tryd.prog (gv1 m) Fn.tree_Path (lookF F) :=
  look_of (by kernel_rfl) hG Tryd.func55 rfl (ks := Ks.tree_Path) (rs := Rs.tree_Path) (by kernel_rfl) (by kernel_rfl) (Ok.tree_Path m) hF

theorem Ok.licitref16_name (m : Int) : (compC Tryd.prog (gv1 m) Ks.licitref16_name Tryd.f56.ntmps [] (Tryd.f56.body.getD .skip) Dl.licitref16_name).1 = Mc.licitref16_name := by kernel_rfl
theorem Pure.licitref16_name {m : Int} {G : Gam} (hG : GamOK Tryd.prog (gv1 m) G) {F : List AV → Option AV} (hF : ∀ args r, F args = some r → wpM G Mc.licitref16_name (pureQ Rs.licitref16_name r) [] (frInit Ks.licitref16_name args) []) : PureOK Tryd.prog (gv1 m) Fn.licitref16_name F :=
  pure_of (by kernel_rfl) hG Tryd.func56 rfl (ks := Ks.licitref16_name) (rs := Rs.licitref16_name) (by kernel_rfl) (by kernel_rfl) (Ok.licitref16_name m) hF
theorem Look.licitref16_name {m : Int} {G : Gam} (hG : GamOK Tryd.prog (gv1 m) G) {F : List AV → Heap → Option AV} (hF : ∀ args h r, F args h = some r → wpM G Mc.licitref16_name (lookQ Rs.licitref16_name r h) [] (frInit Ks.licitref16_name args) h) : GenOK Tryd.prog (gv1 m) Fn.licitref16_name (lookF F) :=
  look_of (by kernel_rfl) hG Tryd.func56 rfl (ks := Ks.licitref16_name) (rs := Rs.licitref16_name) (by kernel_rfl) (by kernel_rfl) (Ok.licitref16_name m) hF

theorem Ok.slices_ContainsFunc___string_string_ (m : Int) : (compC Tryd.prog (gv1 m) Ks.slices_ContainsFunc___string_string_ Tryd.f74.ntmps [] (Tryd.f74.body.getD .skip) Dl.slices_ContainsFunc___string_string_).1 = Mc.slices_ContainsFunc___string_string_ := by kernel_rfl
theorem Pure.slices_ContainsFunc___string_string_ {m : Int} {G : Gam} (hG : GamOK Tryd.prog (gv1 m) G) {F : List AV → Option AV} (hF : ∀ args r, F args = some r → wpM G Mc.slices_ContainsFunc___string_string_ (pureQ Rs.slices_ContainsFunc___string_string_ r) [] (frInit Ks.slices_ContainsFunc___string_string_ args) []) : PureOK Tryd.prog (gv1 m) Fn.slices_ContainsFunc___string_string_ F :=
  pure_of (by kernel_rfl) hG Tryd.func74 rfl (ks := Ks.slices_ContainsFunc___string_string_) (rs := Rs.slices_ContainsFunc___string_string_) (by kernel_rfl) (by kernel_rfl) (Ok.slices_ContainsFunc___string_string_ m) hF
theorem Look.slices_ContainsFunc___string_string_ {m : Int} {G : Gam} (hG : GamOK Tryd.prog (gv1 m) G) {F : List AV → Heap → Option AV} (hF : ∀ args h r, F args h = some r → wpM G Mc.slices_ContainsFunc___string_string_ (lookQ Rs.slices_ContainsFunc___string_string_ r h) [] (frInit Ks.slices_ContainsFunc___string_string_ args) h) : GenOK Tryd.prog (gv1 m) Fn.slices_ContainsFunc___string_string_ (lookF F) :=
  look_of (by kernel_rfl) hG Tryd.func74 rfl (ks := Ks.slices_ContainsFunc___string_string_) (rs := Rs.slices_ContainsFunc___string_string_) (by kernel_rfl) (by kernel_rfl) (Ok.slices_ContainsFunc___string_string_ m) hF

theorem Ok.tree_Path_1 (m : Int) : (compC Tryd.prog (gv1 m) Ks.tree_Path_1 Tryd.f75.ntmps [] (Tryd.f75.body.getD .skip) Dl.tree_Path_1).1 = Mc.tree_Path_1 := by kernel_rfl
theorem Pure.tree_Path_1 {m : Int} {G : Gam} (hG : GamOK Tryd.prog (gv1 m) G) {F : List AV → Option AV} (hF : ∀ args r, F args = some r → wpM G Mc.tree_Path_1 (pureQ Rs.tree_Path_1 r) [] (frInit Ks.tree_Path_1 args) []) : PureOK Tryd.prog (gv1 m) Fn.tree_Path_1 F :=
  pure_of (by kernel_rfl) hG Tryd.func75 rfl (ks := Ks.tree_Path_1) (rs := Rs.tree_Path_1) (by kernel_rfl) (by kernel_rfl) (Ok.tree_Path_1 m) hF
theorem Look.tree_Path_1 {m : Int} {G : Gam} (hG : GamOK Tryd.prog (gv1 m) G) {F : List AV → Heap → Option AV} (hF : ∀ args h r, F args h = some r → wpM G Mc.tree_Path_1 (lookQ Rs.tree_Path_1 r h) [] (frInit Ks.tree_Path_1 args) h) : GenOK Tryd.prog (gv1 m) Fn.tree_Path_1 (lookF F) :=
  look_of (by kernel_rfl) hG Tryd.func75 rfl (ks := Ks.tree_Path_1) (rs := Rs.tree_Path_1) (by kernel_rfl) (by kernel_rfl) (Ok.tree_Path_1 m) hF

theorem Ok.tree_part (m : Int) : (compC Tryd.prog (gv1 m) Ks.tree_part Tryd.f76.ntmps [] (Tryd.f76.body.getD .skip) Dl.tree_part).1 = Mc.tree_part := by kernel_rfl
theorem Pure.tree_part {m : Int} {G : Gam} (hG : GamOK Tryd.prog (gv1 m) G) {F : List AV → Option AV} (hF : ∀ args r, F args = some r → wpM G Mc.tree_part (pureQ Rs.tree_part r) [] (frInit Ks.tree_part args) []) : PureOK Tryd.prog (gv1 m) Fn.tree_part F :=
  pure_of (by kernel_rfl) hG Tryd.func76 rfl (ks := Ks.tree_part) (rs := Rs.tree_part) (by kernel_rfl) (by kernel_rfl) (Ok.tree_part m) hF
theorem Look.tree_part {m : Int} {G : Gam} (hG : GamOK Tryd.prog (gv1 m) G) {F : List AV → Heap → Option AV} (hF : ∀ args h r, F args h = some r → wpM G Mc.tree_part (lookQ Rs.tree_part r h) [] (frInit Ks.tree_part args) h) : GenOK Tryd.prog (gv1 m) Fn.tree_part (lookF F) :=
  look_of (by kernel_rfl) hG Tryd.func76 rfl (ks := Ks.tree_part) (rs := Rs.tree_part) (by kernel_rfl) (by kernel_rfl) (Ok.tree_part m) hF

theorem Ok.slices_IndexFunc___string_string_ (m : Int) : (compC Tryd.prog (gv1 m) Ks.slices_IndexFunc___string_string_ Tryd.f88.ntmps [] (Tryd.f88.body.getD .skip) Dl.slices_IndexFunc___string_string_).1 = Mc.slices_IndexFunc___string_string_ := by kernel_rfl
theorem Pure.slices_IndexFunc___string_string_ {m : Int} {G : Gam} (hG : GamOK Tryd.prog (gv1 m) G) {F : List AV → Option AV} (hF : ∀ args r, F args = some r → wpM G Mc.slices_IndexFunc___string_string_ (pureQ Rs.slices_IndexFunc___string_string_ r) [] (frInit Ks.slices_IndexFunc___string_string_ args) []) : PureOK Tryd.prog (gv1 m) Fn.slices_IndexFunc___string_string_ F :=
  pure_of (by kernel_rfl) hG Tryd.func88 rfl (ks := Ks.slices_IndexFunc___string_string_) (rs := Rs.slices_IndexFunc___string_string_) (by kernel_rfl) (by kernel_rfl) (Ok.slices_IndexFunc___string_string_ m) hF
theorem Look.slices_IndexFunc___string_string_ {m : Int} {G : Gam} (hG : GamOK Tryd.prog (gv1 m) G) {F : List AV → Heap → Option AV} (hF : ∀ args h r, F args h = some r → wpM G Mc.slices_IndexFunc___string_string_ (lookQ Rs.slices_IndexFunc___string_string_ r h) [] (frInit Ks.slices_IndexFunc___string_string_ args) h) : GenOK Tryd.prog (gv1 m) Fn.slices_IndexFunc___string_string_ (lookF F) :=
  look_of (by kernel_rfl) hG Tryd.func88 rfl (ks := Ks.slices_IndexFunc___string_string_) (rs := Rs.slices_IndexFunc___string_string_) (by kernel_rfl) (by kernel_rfl) (Ok.slices_IndexFunc___string_string_ m) hF

theorem Ok.strings_ContainsFunc (m : Int) : (compC Tryd.prog (gv1 m) Ks.strings_ContainsFunc Tryd.f89.ntmps [] (Tryd.f89.body.getD .skip) Dl.strings_ContainsFunc).1 = Mc.strings_ContainsFunc := by kernel_rfl
theorem Pure.strings_ContainsFunc {m : Int} {G : Gam} (hG : GamOK Tryd.prog (gv1 m) G) {F : List AV → Option AV} (hF : ∀ args r, F args = some r → wpM G Mc.strings_ContainsFunc (pureQ Rs.strings_ContainsFunc r) [] (frInit Ks.strings_ContainsFunc args) []) : PureOK Tryd.prog (gv1 m) Fn.strings_ContainsFunc F :=
  pure_of (by kernel_rfl) hG Tryd.func89 rfl (ks := Ks.strings_ContainsFunc) (rs := Rs.strings_ContainsFunc) (by kernel_rfl) (by kernel_rfl) (Ok.strings_ContainsFunc m) hF
theorem Look.strings_ContainsFunc {m : Int} {G : Gam} (hG : GamOK Tryd.prog (gv1 m) G) {F : List AV → Heap → Option AV} (hF : ∀ args h r, F args h = some r → wpM G Mc.strings_ContainsFunc (lookQ Rs.strings_ContainsFunc r h) [] (frInit Ks.strings_ContainsFunc args) h) : GenOK Tryd.prog (gv1 m) Fn.strings_ContainsFunc (lookF F) :=
  look_of (by kernel_rfl) hG Tryd.func89 rfl (ks := Ks.strings_ContainsFunc) (rs := Rs.strings_ContainsFunc) (by kernel_rfl) (by kernel_rfl) (Ok.strings_ContainsFunc m) hF

theorem Ok.tree_part_1 (m : Int) : (compC Tryd.prog (gv1 m) Ks.tree_part_1 Tryd.f90.ntmps [] (Tryd.f90.body.getD .skip) Dl.tree_part_1).1 = Mc.tree_part_1 := by kernel_rfl
theorem Pure.tree_part_1 {m : Int} {G : Gam} (hG : GamOK Tryd.prog (gv1 m) G) {F : List AV → Option AV} (hF : ∀ args r, F args = some r → wpM G Mc.tree_part_1 (pureQ Rs.tree_part_1 r) [] (frInit Ks.tree_part_1 args) []) : PureOK Tryd.prog (gv1 m) Fn.tree_part_1 F :=
  pure_of (by kernel_rfl) hG Tryd.func90 rfl (ks := Ks.tree_part_1) (rs := Rs.tree_part_1) (by kernel_rfl) (by kernel_rfl) (Ok.tree_part_1 m) hF
theorem Look.tree_part_1 {m : Int} {G : Gam} (hG : GamOK Tryd.prog (gv1 m) G) {F : List AV → Heap → Option AV} (hF : ∀ args h r, F args h = some r → wpM G Mc.tree_part_1 (lookQ Rs.tree_part_1 r h) [] (frInit Ks.tree_part_1 args) h) : GenOK Tryd.prog (gv1 m) Fn.tree_part_1 (lookF F) :=
  look_of (by kernel_rfl) hG Tryd.func90 rfl (ks := Ks.tree_part_1) (rs := Rs.tree_part_1) (by kernel_rfl) (by kernel_rfl) (Ok.tree_part_1 m) hF

theorem Ok.strings_IndexFunc (m : Int) : (compC Tryd.prog (gv1 m) Ks.strings_IndexFunc Tryd.f97.ntmps [] (Tryd.f97.body.getD .skip) Dl.strings_IndexFunc).1 = Mc.strings_IndexFunc := by kernel_rfl
theorem Pure.strings_IndexFunc {m : Int} {G : Gam} (hG : GamOK Tryd.prog (gv1 m) G) {F : List AV → Option AV} (hF : ∀ args r, F args = some r → wpM G Mc.strings_IndexFunc (pureQ Rs.strings_IndexFunc r) [] (frInit Ks.strings_IndexFunc args) []) : PureOK Tryd.prog (gv1 m) Fn.strings_IndexFunc F :=
  pure_of (by kernel_rfl) hG Tryd.func97 rfl (ks := Ks.strings_IndexFunc) (rs := Rs.strings_IndexFunc) (by kernel_rfl) (by kernel_rfl) (Ok.strings_IndexFunc m) hF
theorem Look.strings_IndexFunc {m : Int} {G : Gam} (hG : GamOK Tryd.prog (gv1 m) G) {F : List AV → Heap → Option AV} (hF : ∀ args h r, F args h = some r → wpM G Mc.strings_IndexFunc (lookQ Rs.strings_IndexFunc r h) [] (frInit Ks.strings_IndexFunc args) h) : GenOK Tryd.prog (gv1 m) Fn.strings_IndexFunc (lookF F) :=
  look_of (by kernel_rfl) hG Tryd.func97 rfl (ks := Ks.strings_IndexFunc) (rs := Rs.strings_IndexFunc) (by kernel_rfl) (by kernel_rfl) (Ok.strings_IndexFunc m) hF

theorem Ok.strings_indexFunc (m : Int) : (compC Tryd.prog (gv1 m) Ks.strings_indexFunc Tryd.f102.ntmps [] (Tryd.f102.body.getD .skip) Dl.strings_indexFunc).1 = Mc.strings_indexFunc := by kernel_rfl
theorem Pure.strings_indexFunc {m : Int} {G : Gam} (hG : GamOK Tryd.prog (gv1 m) G) {F : List AV → Option AV} (hF : ∀ args r, F args = some r → wpM G Mc.strings_indexFunc (pureQ Rs.strings_indexFunc r) [] (frInit Ks.strings_indexFunc args) []) : PureOK Tryd.prog (gv1 m) Fn.strings_indexFunc F :=
  pure_of (by kernel_rfl) hG Tryd.func102 rfl (ks := Ks.strings_indexFunc) (rs := Rs.strings_indexFunc) (by kernel_rfl) (by kernel_rfl) (Ok.strings_indexFunc m) hF
theorem Look.strings_indexFunc {m : Int} {G : Gam} (hG : GamOK Tryd.prog (gv1 m) G) {F : List AV → Heap → Option AV} (hF : ∀ args h r, F args h = some r → wpM G Mc.strings_indexFunc (lookQ Rs.strings_indexFunc r h) [] (frInit Ks.strings_indexFunc args) h) : GenOK Tryd.prog (gv1 m) Fn.strings_indexFunc (lookF F) :=
  look_of (by kernel_rfl) hG Tryd.func102 rfl (ks := Ks.strings_indexFunc) (rs := Rs.strings_indexFunc) (by kernel_rfl) (by kernel_rfl) (Ok.strings_indexFunc m) hF

end Go.Proofs.YtmjdgpiofhildaaDoor
