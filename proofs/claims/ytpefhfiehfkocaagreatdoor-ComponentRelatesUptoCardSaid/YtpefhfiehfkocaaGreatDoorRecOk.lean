/- The resolved functions are the functions of the program (law 46). -/
import Derived.Test.YtpefhfiehfkocaaGreatDoorRecMc
import Derived.Test.YtpefhfiehfkocaaGreatDoorAm9
import Derived.Test.YtpefhfiehfkocaaGreatDoorAm8
import Derived.Test.YtpefhfiehfkocaaGreatDoorChecked
import Derived.KernelRfl
import Derived.Lib.ItoaNum
namespace Go.Proofs.YtpefhfiehfkocaaGreatDoor
structure GvP where
 m:Int
 t4:TypeId
 p4:Value
 t5:TypeId
 p5:Value
def gv1(m:GvP):Gv:=⟨fun g=>if g=0 then some [.int .i64 m.m]else none,fun g=>if g=5 then some (Lib.pow10Tab.map fun z=>Value.int .u64 z)else if g=3 then some [.iface m.t4 m.p4]else if g=4 then some [.iface m.t5 m.p5]else none⟩
theorem Ok.tree_Path(m:GvP):(compC Tryz.prog (gv1 m) Ks.tree_Path Tryz.f53.ntmps [] (Tryz.f53.body.getD .skip) Dl.tree_Path).1=Mc.tree_Path:=by kernel_rfl
theorem Pure.tree_Path{m:GvP}{G:Gam}(hG:GamOK Tryz.prog (gv1 m) G){F:List AV→Option AV}(hF:∀ args r,F args=some r→wpM G Mc.tree_Path (pureQ Rs.tree_Path r) [] (frInit Ks.tree_Path args) []):PureOK Tryz.prog (gv1 m) Fn.tree_Path F:=
 pure_of (by kernel_rfl) hG Tryz.func53 rfl (ks:=Ks.tree_Path) (rs:=Rs.tree_Path) (by kernel_rfl) (by kernel_rfl) (Ok.tree_Path m) hF
theorem Ok.q80(m:GvP):(compC Tryz.prog (gv1 m) Ks.q80 Tryz.f216.ntmps [] (Tryz.f216.body.getD .skip) Dl.q80).1=Mc.q80:=by kernel_rfl
theorem Pure.q80{m:GvP}{G:Gam}(hG:GamOK Tryz.prog (gv1 m) G){F:List AV→Option AV}(hF:∀ args r,F args=some r→wpM G Mc.q80 (pureQ Rs.q80 r) [] (frInit Ks.q80 args) []):PureOK Tryz.prog (gv1 m) Fn.q80 F:=
 pure_of (by kernel_rfl) hG Tryz.func216 rfl (ks:=Ks.q80) (rs:=Rs.q80) (by kernel_rfl) (by kernel_rfl) (Ok.q80 m) hF
theorem Ok.q28(m:GvP):(compC Tryz.prog (gv1 m) Ks.q28 Tryz.f42.ntmps [] (Tryz.f42.body.getD .skip) Dl.q28).1=Mc.q28:=by kernel_rfl
theorem Pure.q28{m:GvP}{G:Gam}(hG:GamOK Tryz.prog (gv1 m) G){F:List AV→Option AV}(hF:∀ args r,F args=some r→wpM G Mc.q28 (pureQ Rs.q28 r) [] (frInit Ks.q28 args) []):PureOK Tryz.prog (gv1 m) Fn.q28 F:=
 pure_of (by kernel_rfl) hG Tryz.func42 rfl (ks:=Ks.q28) (rs:=Rs.q28) (by kernel_rfl) (by kernel_rfl) (Ok.q28 m) hF
theorem Ok.q19(m:GvP):(compC Tryz.prog (gv1 m) Ks.q19 Tryz.f93.ntmps [] (Tryz.f93.body.getD .skip) Dl.q19).1=Mc.q19:=by kernel_rfl
theorem Look.q19{m:GvP}{G:Gam}(hG:GamOK Tryz.prog (gv1 m) G){F:List AV→Heap→Option AV}(hF:∀ args h r,F args h=some r→wpM G Mc.q19 (lookQ Rs.q19 r h) [] (frInit Ks.q19 args) h):GenOK Tryz.prog (gv1 m) Fn.q19 (lookF F):=
 look_of (by kernel_rfl) hG Tryz.func93 rfl (ks:=Ks.q19) (rs:=Rs.q19) (by kernel_rfl) (by kernel_rfl) (Ok.q19 m) hF
theorem Ok.tree_Path_1(m:GvP):(compC Tryz.prog (gv1 m) Ks.tree_Path_1 Tryz.f94.ntmps [] (Tryz.f94.body.getD .skip) Dl.tree_Path_1).1=Mc.tree_Path_1:=by kernel_rfl
theorem Pure.tree_Path_1{m:GvP}{G:Gam}(hG:GamOK Tryz.prog (gv1 m) G){F:List AV→Option AV}(hF:∀ args r,F args=some r→wpM G Mc.tree_Path_1 (pureQ Rs.tree_Path_1 r) [] (frInit Ks.tree_Path_1 args) []):PureOK Tryz.prog (gv1 m) Fn.tree_Path_1 F:=
 pure_of (by kernel_rfl) hG Tryz.func94 rfl (ks:=Ks.tree_Path_1) (rs:=Rs.tree_Path_1) (by kernel_rfl) (by kernel_rfl) (Ok.tree_Path_1 m) hF
theorem Ok.tree_part(m:GvP):(compC Tryz.prog (gv1 m) Ks.tree_part Tryz.f95.ntmps [] (Tryz.f95.body.getD .skip) Dl.tree_part).1=Mc.tree_part:=by kernel_rfl
theorem Pure.tree_part{m:GvP}{G:Gam}(hG:GamOK Tryz.prog (gv1 m) G){F:List AV→Option AV}(hF:∀ args r,F args=some r→wpM G Mc.tree_part (pureQ Rs.tree_part r) [] (frInit Ks.tree_part args) []):PureOK Tryz.prog (gv1 m) Fn.tree_part F:=
 pure_of (by kernel_rfl) hG Tryz.func95 rfl (ks:=Ks.tree_part) (rs:=Rs.tree_part) (by kernel_rfl) (by kernel_rfl) (Ok.tree_part m) hF
theorem Ok.q57(m:GvP):(compC Tryz.prog (gv1 m) Ks.q57 Tryz.f111.ntmps [] (Tryz.f111.body.getD .skip) Dl.q57).1=Mc.q57:=by kernel_rfl
theorem Pure.q57{m:GvP}{G:Gam}(hG:GamOK Tryz.prog (gv1 m) G){F:List AV→Option AV}(hF:∀ args r,F args=some r→wpM G Mc.q57 (pureQ Rs.q57 r) [] (frInit Ks.q57 args) []):PureOK Tryz.prog (gv1 m) Fn.q57 F:=
 pure_of (by kernel_rfl) hG Tryz.func111 rfl (ks:=Ks.q57) (rs:=Rs.q57) (by kernel_rfl) (by kernel_rfl) (Ok.q57 m) hF
theorem Ok.q34(m:GvP):(compC Tryz.prog (gv1 m) Ks.q34 Tryz.f77.ntmps [] (Tryz.f77.body.getD .skip) Dl.q34).1=Mc.q34:=by kernel_rfl
theorem Pure.q34{m:GvP}{G:Gam}(hG:GamOK Tryz.prog (gv1 m) G){F:List AV→Option AV}(hF:∀ args r,F args=some r→wpM G Mc.q34 (pureQ Rs.q34 r) [] (frInit Ks.q34 args) []):PureOK Tryz.prog (gv1 m) Fn.q34 F:=
 pure_of (by kernel_rfl) hG Tryz.func77 rfl (ks:=Ks.q34) (rs:=Rs.q34) (by kernel_rfl) (by kernel_rfl) (Ok.q34 m) hF
theorem Ok.q25(m:GvP):(compC Tryz.prog (gv1 m) Ks.q25 Tryz.f162.ntmps [] (Tryz.f162.body.getD .skip) Dl.q25).1=Mc.q25:=by kernel_rfl
theorem Look.q25{m:GvP}{G:Gam}(hG:GamOK Tryz.prog (gv1 m) G){F:List AV→Heap→Option AV}(hF:∀ args h r,F args h=some r→wpM G Mc.q25 (lookQ Rs.q25 r h) [] (frInit Ks.q25 args) h):GenOK Tryz.prog (gv1 m) Fn.q25 (lookF F):=
 look_of (by kernel_rfl) hG Tryz.func162 rfl (ks:=Ks.q25) (rs:=Rs.q25) (by kernel_rfl) (by kernel_rfl) (Ok.q25 m) hF
theorem Ok.q48(m:GvP):(compC Tryz.prog (gv1 m) Ks.q48 Tryz.f163.ntmps [] (Tryz.f163.body.getD .skip) Dl.q48).1=Mc.q48:=by kernel_rfl
theorem Look.q48{m:GvP}{G:Gam}(hG:GamOK Tryz.prog (gv1 m) G){F:List AV→Heap→Option AV}(hF:∀ args h r,F args h=some r→wpM G Mc.q48 (lookQ Rs.q48 r h) [] (frInit Ks.q48 args) h):GenOK Tryz.prog (gv1 m) Fn.q48 (lookF F):=
 look_of (by kernel_rfl) hG Tryz.func163 rfl (ks:=Ks.q48) (rs:=Rs.q48) (by kernel_rfl) (by kernel_rfl) (Ok.q48 m) hF
theorem Ok.tree_part_1(m:GvP):(compC Tryz.prog (gv1 m) Ks.tree_part_1 Tryz.f164.ntmps [] (Tryz.f164.body.getD .skip) Dl.tree_part_1).1=Mc.tree_part_1:=by kernel_rfl
theorem Pure.tree_part_1{m:GvP}{G:Gam}(hG:GamOK Tryz.prog (gv1 m) G){F:List AV→Option AV}(hF:∀ args r,F args=some r→wpM G Mc.tree_part_1 (pureQ Rs.tree_part_1 r) [] (frInit Ks.tree_part_1 args) []):PureOK Tryz.prog (gv1 m) Fn.tree_part_1 F:=
 pure_of (by kernel_rfl) hG Tryz.func164 rfl (ks:=Ks.tree_part_1) (rs:=Rs.tree_part_1) (by kernel_rfl) (by kernel_rfl) (Ok.tree_part_1 m) hF
theorem Ok.q58(m:GvP):(compC Tryz.prog (gv1 m) Ks.q58 Tryz.f233.ntmps [] (Tryz.f233.body.getD .skip) Dl.q58).1=Mc.q58:=by kernel_rfl
theorem Look.q58{m:GvP}{G:Gam}(hG:GamOK Tryz.prog (gv1 m) G){F:List AV→Heap→Option AV}(hF:∀ args h r,F args h=some r→wpM G Mc.q58 (lookQ Rs.q58 r h) [] (frInit Ks.q58 args) h):GenOK Tryz.prog (gv1 m) Fn.q58 (lookF F):=
 look_of (by kernel_rfl) hG Tryz.func233 rfl (ks:=Ks.q58) (rs:=Rs.q58) (by kernel_rfl) (by kernel_rfl) (Ok.q58 m) hF
theorem Ok.q59(m:GvP):(compC Tryz.prog (gv1 m) Ks.q59 Tryz.f321.ntmps [] (Tryz.f321.body.getD .skip) Dl.q59).1=Mc.q59:=by kernel_rfl
theorem Look.q59{m:GvP}{G:Gam}(hG:GamOK Tryz.prog (gv1 m) G){F:List AV→Heap→Option AV}(hF:∀ args h r,F args h=some r→wpM G Mc.q59 (lookQ Rs.q59 r h) [] (frInit Ks.q59 args) h):GenOK Tryz.prog (gv1 m) Fn.q59 (lookF F):=
 look_of (by kernel_rfl) hG Tryz.func321 rfl (ks:=Ks.q59) (rs:=Rs.q59) (by kernel_rfl) (by kernel_rfl) (Ok.q59 m) hF
theorem Ok.digest_Sum(m:GvP):(compC Tryz.prog (gv1 m) Ks.digest_Sum Tryz.f121.ntmps [] (Tryz.f121.body.getD .skip) Dl.digest_Sum).1=Mc.digest_Sum:=by kernel_rfl
theorem Pure.digest_Sum{m:GvP}{G:Gam}(hG:GamOK Tryz.prog (gv1 m) G){F:List AV→Option AV}(hF:∀ args r,F args=some r→wpM G Mc.digest_Sum (pureQ Rs.digest_Sum r) [] (frInit Ks.digest_Sum args) []):PureOK Tryz.prog (gv1 m) Fn.digest_Sum F:=
 pure_of (by kernel_rfl) hG Tryz.func121 rfl (ks:=Ks.digest_Sum) (rs:=Rs.digest_Sum) (by kernel_rfl) (by kernel_rfl) (Ok.digest_Sum m) hF
theorem Ok.digest_New(m:GvP):(compC Tryz.prog (gv1 m) Ks.digest_New Tryz.f194.ntmps [] (Tryz.f194.body.getD .skip) Dl.digest_New).1=Mc.digest_New:=by kernel_rfl
theorem Gen.digest_New{m:GvP}{G:Gam}(hG:GamOK Tryz.prog (gv1 m) G){F:List AV→Heap→Option (AV×Heap)}(hF:∀ args h r h',F args h=some (r,h')→wpM G Mc.digest_New (genQ Rs.digest_New r h') [] (frInit Ks.digest_New args) h):GenOK Tryz.prog (gv1 m) Fn.digest_New F:=
 gen_of (by kernel_rfl) hG Tryz.func194 rfl (ks:=Ks.digest_New) (rs:=Rs.digest_New) (by kernel_rfl) (by kernel_rfl) (Ok.digest_New m) hF
theorem Ok.q42(m:GvP):(compC Tryz.prog (gv1 m) Ks.q42 Tryz.f195.ntmps Ow.__digest_Sponge__Write (Tryz.f195.body.getD .skip) Dl.q42).1=Mc.q42:=by kernel_rfl
theorem Gen.q42{m:GvP}{G:Gam}(hG:GamOK Tryz.prog (gv1 m) G){F:List AV→Heap→Option (AV×Heap)}(hF:∀ args h r h',F args h=some (r,h')→wpM G Mc.q42 (genQ Rs.q42 r h') [] (frInit Ks.q42 args) h):GenOK Tryz.prog (gv1 m) Fn.q42 F:=
 gen_of (by kernel_rfl) hG Tryz.func195 rfl (ks:=Ks.q42) (rs:=Rs.q42) (by kernel_rfl) (by kernel_rfl) (Ok.q42 m) hF
theorem Ok.q49(m:GvP):(compC Tryz.prog (gv1 m) Ks.q49 Tryz.f196.ntmps [] (Tryz.f196.body.getD .skip) Dl.q49).1=Mc.q49:=by kernel_rfl
theorem Gen.q49{m:GvP}{G:Gam}(hG:GamOK Tryz.prog (gv1 m) G){F:List AV→Heap→Option (AV×Heap)}(hF:∀ args h r h',F args h=some (r,h')→wpM G Mc.q49 (genQ Rs.q49 r h') [] (frInit Ks.q49 args) h):GenOK Tryz.prog (gv1 m) Fn.q49 F:=
 gen_of (by kernel_rfl) hG Tryz.func196 rfl (ks:=Ks.q49) (rs:=Rs.q49) (by kernel_rfl) (by kernel_rfl) (Ok.q49 m) hF
theorem Ok.q40(m:GvP):(compC Tryz.prog (gv1 m) Ks.q40 Tryz.f283.ntmps [] (Tryz.f283.body.getD .skip) Dl.q40).1=Mc.q40:=by kernel_rfl
theorem Gen.q40{m:GvP}{G:Gam}(hG:GamOK Tryz.prog (gv1 m) G){F:List AV→Heap→Option (AV×Heap)}(hF:∀ args h r h',F args h=some (r,h')→wpM G Mc.q40 (genQ Rs.q40 r h') [] (frInit Ks.q40 args) h):GenOK Tryz.prog (gv1 m) Fn.q40 F:=
 gen_of (by kernel_rfl) hG Tryz.func283 rfl (ks:=Ks.q40) (rs:=Rs.q40) (by kernel_rfl) (by kernel_rfl) (Ok.q40 m) hF
theorem Ok.q43(m:GvP):(compC Tryz.prog (gv1 m) Ks.q43 Tryz.f284.ntmps [] (Tryz.f284.body.getD .skip) Dl.q43).1=Mc.q43:=by kernel_rfl
theorem Gen.q43{m:GvP}{G:Gam}(hG:GamOK Tryz.prog (gv1 m) G){F:List AV→Heap→Option (AV×Heap)}(hF:∀ args h r h',F args h=some (r,h')→wpM G Mc.q43 (genQ Rs.q43 r h') [] (frInit Ks.q43 args) h):GenOK Tryz.prog (gv1 m) Fn.q43 F:=
 gen_of (by kernel_rfl) hG Tryz.func284 rfl (ks:=Ks.q43) (rs:=Rs.q43) (by kernel_rfl) (by kernel_rfl) (Ok.q43 m) hF
theorem Ok.q75(m:GvP):(compC Tryz.prog (gv1 m) Ks.q75 Tryz.f372.ntmps [] (Tryz.f372.body.getD .skip) Dl.q75).1=Mc.q75:=by kernel_rfl
theorem Pure.q75{m:GvP}{G:Gam}(hG:GamOK Tryz.prog (gv1 m) G){F:List AV→Option AV}(hF:∀ args r,F args=some r→wpM G Mc.q75 (pureQ Rs.q75 r) [] (frInit Ks.q75 args) []):PureOK Tryz.prog (gv1 m) Fn.q75 F:=
 pure_of (by kernel_rfl) hG Tryz.func372 rfl (ks:=Ks.q75) (rs:=Rs.q75) (by kernel_rfl) (by kernel_rfl) (Ok.q75 m) hF
theorem Ok.q76(m:GvP):(compC Tryz.prog (gv1 m) Ks.q76 Tryz.f441.ntmps [] (Tryz.f441.body.getD .skip) Dl.q76).1=Mc.q76:=by kernel_rfl
theorem Pure.q76{m:GvP}{G:Gam}(hG:GamOK Tryz.prog (gv1 m) G){F:List AV→Option AV}(hF:∀ args r,F args=some r→wpM G Mc.q76 (pureQ Rs.q76 r) [] (frInit Ks.q76 args) []):PureOK Tryz.prog (gv1 m) Fn.q76 F:=
 pure_of (by kernel_rfl) hG Tryz.func441 rfl (ks:=Ks.q76) (rs:=Rs.q76) (by kernel_rfl) (by kernel_rfl) (Ok.q76 m) hF
theorem Ok.q64(m:GvP):(compC Tryz.prog (gv1 m) Ks.q64 Tryz.f442.ntmps [] (Tryz.f442.body.getD .skip) Dl.q64).1=Mc.q64:=by kernel_rfl
theorem Pure.q64{m:GvP}{G:Gam}(hG:GamOK Tryz.prog (gv1 m) G){F:List AV→Option AV}(hF:∀ args r,F args=some r→wpM G Mc.q64 (pureQ Rs.q64 r) [] (frInit Ks.q64 args) []):PureOK Tryz.prog (gv1 m) Fn.q64 F:=
 pure_of (by kernel_rfl) hG Tryz.func442 rfl (ks:=Ks.q64) (rs:=Rs.q64) (by kernel_rfl) (by kernel_rfl) (Ok.q64 m) hF
theorem Ok.q89(m:GvP):(compC Tryz.prog (gv1 m) Ks.q89 Tryz.f443.ntmps [] (Tryz.f443.body.getD .skip) Dl.q89).1=Mc.q89:=by kernel_rfl
theorem Pure.q89{m:GvP}{G:Gam}(hG:GamOK Tryz.prog (gv1 m) G){F:List AV→Option AV}(hF:∀ args r,F args=some r→wpM G Mc.q89 (pureQ Rs.q89 r) [] (frInit Ks.q89 args) []):PureOK Tryz.prog (gv1 m) Fn.q89 F:=
 pure_of (by kernel_rfl) hG Tryz.func443 rfl (ks:=Ks.q89) (rs:=Rs.q89) (by kernel_rfl) (by kernel_rfl) (Ok.q89 m) hF
theorem Ok.q44(m:GvP):(compC Tryz.prog (gv1 m) Ks.q44 Tryz.f510.ntmps [] (Tryz.f510.body.getD .skip) Dl.q44).1=Mc.q44:=by kernel_rfl
theorem Pure.q44{m:GvP}{G:Gam}(hG:GamOK Tryz.prog (gv1 m) G){F:List AV→Option AV}(hF:∀ args r,F args=some r→wpM G Mc.q44 (pureQ Rs.q44 r) [] (frInit Ks.q44 args) []):PureOK Tryz.prog (gv1 m) Fn.q44 F:=
 pure_of (by kernel_rfl) hG Tryz.func510 rfl (ks:=Ks.q44) (rs:=Rs.q44) (by kernel_rfl) (by kernel_rfl) (Ok.q44 m) hF
end Go.Proofs.YtpefhfiehfkocaaGreatDoor
