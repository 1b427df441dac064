/- The resolved functions are the functions of the program (law 46). -/
import Derived.Test.YtbfcbkjemlgnpaaGreatDoorRecMc
import Derived.Test.YtbfcbkjemlgnpaaGreatDoorAm9
import Derived.Test.YtbfcbkjemlgnpaaGreatDoorAm8
import Derived.Test.YtbfcbkjemlgnpaaGreatDoorChecked
import Derived.KernelRfl
import Derived.Lib.ItoaNum
namespace Go.Proofs.YtbfcbkjemlgnpaaGreatDoor
structure GvP where
 m:Int
 t4:TypeId
 p4:Value
 t5:TypeId
 p5:Value
def gv1(m:GvP):Gv:=⟨fun g=>if g=0 then some [.int .i64 m.m]else none,fun g=>if g=5 then some (Lib.pow10Tab.map fun z=>Value.int .u64 z)else if g=1 then some [.iface m.t4 m.p4]else if g=2 then some [.iface m.t5 m.p5]else none⟩
theorem Ok.tree_Path(m:GvP):(compC Tryz.prog (gv1 m) Ks.tree_Path Tryz.f69.ntmps [] (Tryz.f69.body.getD .skip) Dl.tree_Path).1=Mc.tree_Path:=by kernel_rfl
theorem Pure.tree_Path{m:GvP}{G:Gam}(hG:GamOK Tryz.prog (gv1 m) G){F:List AV→Option AV}(hF:∀ args r,F args=some r→wpM G Mc.tree_Path (pureQ Rs.tree_Path r) [] (frInit Ks.tree_Path args) []):PureOK Tryz.prog (gv1 m) Fn.tree_Path F:=
 pure_of (by kernel_rfl) hG Tryz.func69 rfl (ks:=Ks.tree_Path) (rs:=Rs.tree_Path) (by kernel_rfl) (by kernel_rfl) (Ok.tree_Path m) hF
theorem Ok.q107(m:GvP):(compC Tryz.prog (gv1 m) Ks.q107 Tryz.f190.ntmps [] (Tryz.f190.body.getD .skip) Dl.q107).1=Mc.q107:=by kernel_rfl
theorem Pure.q107{m:GvP}{G:Gam}(hG:GamOK Tryz.prog (gv1 m) G){F:List AV→Option AV}(hF:∀ args r,F args=some r→wpM G Mc.q107 (pureQ Rs.q107 r) [] (frInit Ks.q107 args) []):PureOK Tryz.prog (gv1 m) Fn.q107 F:=
 pure_of (by kernel_rfl) hG Tryz.func190 rfl (ks:=Ks.q107) (rs:=Rs.q107) (by kernel_rfl) (by kernel_rfl) (Ok.q107 m) hF
theorem Ok.q25(m:GvP):(compC Tryz.prog (gv1 m) Ks.q25 Tryz.f166.ntmps [] (Tryz.f166.body.getD .skip) Dl.q25).1=Mc.q25:=by kernel_rfl
theorem Pure.q25{m:GvP}{G:Gam}(hG:GamOK Tryz.prog (gv1 m) G){F:List AV→Option AV}(hF:∀ args r,F args=some r→wpM G Mc.q25 (pureQ Rs.q25 r) [] (frInit Ks.q25 args) []):PureOK Tryz.prog (gv1 m) Fn.q25 F:=
 pure_of (by kernel_rfl) hG Tryz.func166 rfl (ks:=Ks.q25) (rs:=Rs.q25) (by kernel_rfl) (by kernel_rfl) (Ok.q25 m) hF
theorem Ok.q16(m:GvP):(compC Tryz.prog (gv1 m) Ks.q16 Tryz.f129.ntmps [] (Tryz.f129.body.getD .skip) Dl.q16).1=Mc.q16:=by kernel_rfl
theorem Look.q16{m:GvP}{G:Gam}(hG:GamOK Tryz.prog (gv1 m) G){F:List AV→Heap→Option AV}(hF:∀ args h r,F args h=some r→wpM G Mc.q16 (lookQ Rs.q16 r h) [] (frInit Ks.q16 args) h):GenOK Tryz.prog (gv1 m) Fn.q16 (lookF F):=
 look_of (by kernel_rfl) hG Tryz.func129 rfl (ks:=Ks.q16) (rs:=Rs.q16) (by kernel_rfl) (by kernel_rfl) (Ok.q16 m) hF
theorem Ok.tree_Path_1(m:GvP):(compC Tryz.prog (gv1 m) Ks.tree_Path_1 Tryz.f130.ntmps [] (Tryz.f130.body.getD .skip) Dl.tree_Path_1).1=Mc.tree_Path_1:=by kernel_rfl
theorem Pure.tree_Path_1{m:GvP}{G:Gam}(hG:GamOK Tryz.prog (gv1 m) G){F:List AV→Option AV}(hF:∀ args r,F args=some r→wpM G Mc.tree_Path_1 (pureQ Rs.tree_Path_1 r) [] (frInit Ks.tree_Path_1 args) []):PureOK Tryz.prog (gv1 m) Fn.tree_Path_1 F:=
 pure_of (by kernel_rfl) hG Tryz.func130 rfl (ks:=Ks.tree_Path_1) (rs:=Rs.tree_Path_1) (by kernel_rfl) (by kernel_rfl) (Ok.tree_Path_1 m) hF
theorem Ok.tree_part(m:GvP):(compC Tryz.prog (gv1 m) Ks.tree_part Tryz.f131.ntmps [] (Tryz.f131.body.getD .skip) Dl.tree_part).1=Mc.tree_part:=by kernel_rfl
theorem Pure.tree_part{m:GvP}{G:Gam}(hG:GamOK Tryz.prog (gv1 m) G){F:List AV→Option AV}(hF:∀ args r,F args=some r→wpM G Mc.tree_part (pureQ Rs.tree_part r) [] (frInit Ks.tree_part args) []):PureOK Tryz.prog (gv1 m) Fn.tree_part F:=
 pure_of (by kernel_rfl) hG Tryz.func131 rfl (ks:=Ks.tree_part) (rs:=Rs.tree_part) (by kernel_rfl) (by kernel_rfl) (Ok.tree_part m) hF
theorem Ok.q66(m:GvP):(compC Tryz.prog (gv1 m) Ks.q66 Tryz.f225.ntmps [] (Tryz.f225.body.getD .skip) Dl.q66).1=Mc.q66:=by kernel_rfl
theorem Pure.q66{m:GvP}{G:Gam}(hG:GamOK Tryz.prog (gv1 m) G){F:List AV→Option AV}(hF:∀ args r,F args=some r→wpM G Mc.q66 (pureQ Rs.q66 r) [] (frInit Ks.q66 args) []):PureOK Tryz.prog (gv1 m) Fn.q66 F:=
 pure_of (by kernel_rfl) hG Tryz.func225 rfl (ks:=Ks.q66) (rs:=Rs.q66) (by kernel_rfl) (by kernel_rfl) (Ok.q66 m) hF
theorem Ok.q30(m:GvP):(compC Tryz.prog (gv1 m) Ks.q30 Tryz.f260.ntmps [] (Tryz.f260.body.getD .skip) Dl.q30).1=Mc.q30:=by kernel_rfl
theorem Pure.q30{m:GvP}{G:Gam}(hG:GamOK Tryz.prog (gv1 m) G){F:List AV→Option AV}(hF:∀ args r,F args=some r→wpM G Mc.q30 (pureQ Rs.q30 r) [] (frInit Ks.q30 args) []):PureOK Tryz.prog (gv1 m) Fn.q30 F:=
 pure_of (by kernel_rfl) hG Tryz.func260 rfl (ks:=Ks.q30) (rs:=Rs.q30) (by kernel_rfl) (by kernel_rfl) (Ok.q30 m) hF
theorem Ok.q23(m:GvP):(compC Tryz.prog (gv1 m) Ks.q23 Tryz.f209.ntmps [] (Tryz.f209.body.getD .skip) Dl.q23).1=Mc.q23:=by kernel_rfl
theorem Look.q23{m:GvP}{G:Gam}(hG:GamOK Tryz.prog (gv1 m) G){F:List AV→Heap→Option AV}(hF:∀ args h r,F args h=some r→wpM G Mc.q23 (lookQ Rs.q23 r h) [] (frInit Ks.q23 args) h):GenOK Tryz.prog (gv1 m) Fn.q23 (lookF F):=
 look_of (by kernel_rfl) hG Tryz.func209 rfl (ks:=Ks.q23) (rs:=Rs.q23) (by kernel_rfl) (by kernel_rfl) (Ok.q23 m) hF
theorem Ok.q56(m:GvP):(compC Tryz.prog (gv1 m) Ks.q56 Tryz.f210.ntmps [] (Tryz.f210.body.getD .skip) Dl.q56).1=Mc.q56:=by kernel_rfl
theorem Look.q56{m:GvP}{G:Gam}(hG:GamOK Tryz.prog (gv1 m) G){F:List AV→Heap→Option AV}(hF:∀ args h r,F args h=some r→wpM G Mc.q56 (lookQ Rs.q56 r h) [] (frInit Ks.q56 args) h):GenOK Tryz.prog (gv1 m) Fn.q56 (lookF F):=
 look_of (by kernel_rfl) hG Tryz.func210 rfl (ks:=Ks.q56) (rs:=Rs.q56) (by kernel_rfl) (by kernel_rfl) (Ok.q56 m) hF
theorem Ok.tree_part_1(m:GvP):(compC Tryz.prog (gv1 m) Ks.tree_part_1 Tryz.f211.ntmps [] (Tryz.f211.body.getD .skip) Dl.tree_part_1).1=Mc.tree_part_1:=by kernel_rfl
theorem Pure.tree_part_1{m:GvP}{G:Gam}(hG:GamOK Tryz.prog (gv1 m) G){F:List AV→Option AV}(hF:∀ args r,F args=some r→wpM G Mc.tree_part_1 (pureQ Rs.tree_part_1 r) [] (frInit Ks.tree_part_1 args) []):PureOK Tryz.prog (gv1 m) Fn.tree_part_1 F:=
 pure_of (by kernel_rfl) hG Tryz.func211 rfl (ks:=Ks.tree_part_1) (rs:=Rs.tree_part_1) (by kernel_rfl) (by kernel_rfl) (Ok.tree_part_1 m) hF
theorem Ok.q68(m:GvP):(compC Tryz.prog (gv1 m) Ks.q68 Tryz.f303.ntmps [] (Tryz.f303.body.getD .skip) Dl.q68).1=Mc.q68:=by kernel_rfl
theorem Look.q68{m:GvP}{G:Gam}(hG:GamOK Tryz.prog (gv1 m) G){F:List AV→Heap→Option AV}(hF:∀ args h r,F args h=some r→wpM G Mc.q68 (lookQ Rs.q68 r h) [] (frInit Ks.q68 args) h):GenOK Tryz.prog (gv1 m) Fn.q68 (lookF F):=
 look_of (by kernel_rfl) hG Tryz.func303 rfl (ks:=Ks.q68) (rs:=Rs.q68) (by kernel_rfl) (by kernel_rfl) (Ok.q68 m) hF
theorem Ok.q69(m:GvP):(compC Tryz.prog (gv1 m) Ks.q69 Tryz.f403.ntmps [] (Tryz.f403.body.getD .skip) Dl.q69).1=Mc.q69:=by kernel_rfl
theorem Look.q69{m:GvP}{G:Gam}(hG:GamOK Tryz.prog (gv1 m) G){F:List AV→Heap→Option AV}(hF:∀ args h r,F args h=some r→wpM G Mc.q69 (lookQ Rs.q69 r h) [] (frInit Ks.q69 args) h):GenOK Tryz.prog (gv1 m) Fn.q69 (lookF F):=
 look_of (by kernel_rfl) hG Tryz.func403 rfl (ks:=Ks.q69) (rs:=Rs.q69) (by kernel_rfl) (by kernel_rfl) (Ok.q69 m) hF
theorem Ok.digest_Sum(m:GvP):(compC Tryz.prog (gv1 m) Ks.digest_Sum Tryz.f235.ntmps [] (Tryz.f235.body.getD .skip) Dl.digest_Sum).1=Mc.digest_Sum:=by kernel_rfl
theorem Pure.digest_Sum{m:GvP}{G:Gam}(hG:GamOK Tryz.prog (gv1 m) G){F:List AV→Option AV}(hF:∀ args r,F args=some r→wpM G Mc.digest_Sum (pureQ Rs.digest_Sum r) [] (frInit Ks.digest_Sum args) []):PureOK Tryz.prog (gv1 m) Fn.digest_Sum F:=
 pure_of (by kernel_rfl) hG Tryz.func235 rfl (ks:=Ks.digest_Sum) (rs:=Rs.digest_Sum) (by kernel_rfl) (by kernel_rfl) (Ok.digest_Sum m) hF
theorem Ok.digest_New(m:GvP):(compC Tryz.prog (gv1 m) Ks.digest_New Tryz.f315.ntmps [] (Tryz.f315.body.getD .skip) Dl.digest_New).1=Mc.digest_New:=by kernel_rfl
theorem Gen.digest_New{m:GvP}{G:Gam}(hG:GamOK Tryz.prog (gv1 m) G){F:List AV→Heap→Option (AV×Heap)}(hF:∀ args h r h',F args h=some (r,h')→wpM G Mc.digest_New (genQ Rs.digest_New r h') [] (frInit Ks.digest_New args) h):GenOK Tryz.prog (gv1 m) Fn.digest_New F:=
 gen_of (by kernel_rfl) hG Tryz.func315 rfl (ks:=Ks.digest_New) (rs:=Rs.digest_New) (by kernel_rfl) (by kernel_rfl) (Ok.digest_New m) hF
theorem Ok.q46(m:GvP):(compC Tryz.prog (gv1 m) Ks.q46 Tryz.f316.ntmps Ow.__digest_Sponge__Write (Tryz.f316.body.getD .skip) Dl.q46).1=Mc.q46:=by kernel_rfl
theorem Gen.q46{m:GvP}{G:Gam}(hG:GamOK Tryz.prog (gv1 m) G){F:List AV→Heap→Option (AV×Heap)}(hF:∀ args h r h',F args h=some (r,h')→wpM G Mc.q46 (genQ Rs.q46 r h') [] (frInit Ks.q46 args) h):GenOK Tryz.prog (gv1 m) Fn.q46 F:=
 gen_of (by kernel_rfl) hG Tryz.func316 rfl (ks:=Ks.q46) (rs:=Rs.q46) (by kernel_rfl) (by kernel_rfl) (Ok.q46 m) hF
theorem Ok.q57(m:GvP):(compC Tryz.prog (gv1 m) Ks.q57 Tryz.f317.ntmps [] (Tryz.f317.body.getD .skip) Dl.q57).1=Mc.q57:=by kernel_rfl
theorem Gen.q57{m:GvP}{G:Gam}(hG:GamOK Tryz.prog (gv1 m) G){F:List AV→Heap→Option (AV×Heap)}(hF:∀ args h r h',F args h=some (r,h')→wpM G Mc.q57 (genQ Rs.q57 r h') [] (frInit Ks.q57 args) h):GenOK Tryz.prog (gv1 m) Fn.q57 F:=
 gen_of (by kernel_rfl) hG Tryz.func317 rfl (ks:=Ks.q57) (rs:=Rs.q57) (by kernel_rfl) (by kernel_rfl) (Ok.q57 m) hF
theorem Ok.q40(m:GvP):(compC Tryz.prog (gv1 m) Ks.q40 Tryz.f413.ntmps [] (Tryz.f413.body.getD .skip) Dl.q40).1=Mc.q40:=by kernel_rfl
theorem Gen.q40{m:GvP}{G:Gam}(hG:GamOK Tryz.prog (gv1 m) G){F:List AV→Heap→Option (AV×Heap)}(hF:∀ args h r h',F args h=some (r,h')→wpM G Mc.q40 (genQ Rs.q40 r h') [] (frInit Ks.q40 args) h):GenOK Tryz.prog (gv1 m) Fn.q40 F:=
 gen_of (by kernel_rfl) hG Tryz.func413 rfl (ks:=Ks.q40) (rs:=Rs.q40) (by kernel_rfl) (by kernel_rfl) (Ok.q40 m) hF
theorem Ok.q47(m:GvP):(compC Tryz.prog (gv1 m) Ks.q47 Tryz.f414.ntmps [] (Tryz.f414.body.getD .skip) Dl.q47).1=Mc.q47:=by kernel_rfl
theorem Gen.q47{m:GvP}{G:Gam}(hG:GamOK Tryz.prog (gv1 m) G){F:List AV→Heap→Option (AV×Heap)}(hF:∀ args h r h',F args h=some (r,h')→wpM G Mc.q47 (genQ Rs.q47 r h') [] (frInit Ks.q47 args) h):GenOK Tryz.prog (gv1 m) Fn.q47 F:=
 gen_of (by kernel_rfl) hG Tryz.func414 rfl (ks:=Ks.q47) (rs:=Rs.q47) (by kernel_rfl) (by kernel_rfl) (Ok.q47 m) hF
theorem Ok.q97(m:GvP):(compC Tryz.prog (gv1 m) Ks.q97 Tryz.f476.ntmps [] (Tryz.f476.body.getD .skip) Dl.q97).1=Mc.q97:=by kernel_rfl
theorem Pure.q97{m:GvP}{G:Gam}(hG:GamOK Tryz.prog (gv1 m) G){F:List AV→Option AV}(hF:∀ args r,F args=some r→wpM G Mc.q97 (pureQ Rs.q97 r) [] (frInit Ks.q97 args) []):PureOK Tryz.prog (gv1 m) Fn.q97 F:=
 pure_of (by kernel_rfl) hG Tryz.func476 rfl (ks:=Ks.q97) (rs:=Rs.q97) (by kernel_rfl) (by kernel_rfl) (Ok.q97 m) hF
theorem Ok.q98(m:GvP):(compC Tryz.prog (gv1 m) Ks.q98 Tryz.f521.ntmps [] (Tryz.f521.body.getD .skip) Dl.q98).1=Mc.q98:=by kernel_rfl
theorem Pure.q98{m:GvP}{G:Gam}(hG:GamOK Tryz.prog (gv1 m) G){F:List AV→Option AV}(hF:∀ args r,F args=some r→wpM G Mc.q98 (pureQ Rs.q98 r) [] (frInit Ks.q98 args) []):PureOK Tryz.prog (gv1 m) Fn.q98 F:=
 pure_of (by kernel_rfl) hG Tryz.func521 rfl (ks:=Ks.q98) (rs:=Rs.q98) (by kernel_rfl) (by kernel_rfl) (Ok.q98 m) hF
theorem Ok.q78(m:GvP):(compC Tryz.prog (gv1 m) Ks.q78 Tryz.f522.ntmps [] (Tryz.f522.body.getD .skip) Dl.q78).1=Mc.q78:=by kernel_rfl
theorem Pure.q78{m:GvP}{G:Gam}(hG:GamOK Tryz.prog (gv1 m) G){F:List AV→Option AV}(hF:∀ args r,F args=some r→wpM G Mc.q78 (pureQ Rs.q78 r) [] (frInit Ks.q78 args) []):PureOK Tryz.prog (gv1 m) Fn.q78 F:=
 pure_of (by kernel_rfl) hG Tryz.func522 rfl (ks:=Ks.q78) (rs:=Rs.q78) (by kernel_rfl) (by kernel_rfl) (Ok.q78 m) hF
theorem Ok.q115(m:GvP):(compC Tryz.prog (gv1 m) Ks.q115 Tryz.f523.ntmps [] (Tryz.f523.body.getD .skip) Dl.q115).1=Mc.q115:=by kernel_rfl
theorem Pure.q115{m:GvP}{G:Gam}(hG:GamOK Tryz.prog (gv1 m) G){F:List AV→Option AV}(hF:∀ args r,F args=some r→wpM G Mc.q115 (pureQ Rs.q115 r) [] (frInit Ks.q115 args) []):PureOK Tryz.prog (gv1 m) Fn.q115 F:=
 pure_of (by kernel_rfl) hG Tryz.func523 rfl (ks:=Ks.q115) (rs:=Rs.q115) (by kernel_rfl) (by kernel_rfl) (Ok.q115 m) hF
theorem Ok.q48(m:GvP):(compC Tryz.prog (gv1 m) Ks.q48 Tryz.f575.ntmps [] (Tryz.f575.body.getD .skip) Dl.q48).1=Mc.q48:=by kernel_rfl
theorem Pure.q48{m:GvP}{G:Gam}(hG:GamOK Tryz.prog (gv1 m) G){F:List AV→Option AV}(hF:∀ args r,F args=some r→wpM G Mc.q48 (pureQ Rs.q48 r) [] (frInit Ks.q48 args) []):PureOK Tryz.prog (gv1 m) Fn.q48 F:=
 pure_of (by kernel_rfl) hG Tryz.func575 rfl (ks:=Ks.q48) (rs:=Rs.q48) (by kernel_rfl) (by kernel_rfl) (Ok.q48 m) hF
end Go.Proofs.YtbfcbkjemlgnpaaGreatDoor
