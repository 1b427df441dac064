/- What was run,as contracts -/
import Derived.Test.YtdebajodkallbaaGreatDoorKa5
import Derived.Test.YtdebajodkallbaaGreatDoorKa6
namespace Go.Proofs.YtdebajodkallbaaGreatDoor
open Go.RowKit
noncomputable def za7(m:GvP):Gam:=(sR m).add Fn.ei (.pure zc3)
theorem yg1(H:∀m,GamOK Tryz.prog (gv1 m) (B46 m))(m:GvP):GamOK Tryz.prog (gv1 m) (za7 m):=uA (OC H m) (by kernel_rfl) (zZ9 (OC H) m)
noncomputable def za8(m:GvP):Gam:=(za7 m).add Fn.eo (.gen zc1)
theorem yg2(H:∀m,GamOK Tryz.prog (gv1 m) (B46 m))(m:GvP):GamOK Tryz.prog (gv1 m) (za8 m):=uA (yg1 H m) (by kernel_rfl) (zZ4 (OC H) m)
noncomputable def LR(m:GvP):Gam:=(za8 m).add Fn.et (.gen zc4)
theorem zj1(H:∀m,GamOK Tryz.prog (gv1 m) (B46 m))(m:GvP):GamOK Tryz.prog (gv1 m) (LR m):=uA (yg2 H m) (by kernel_rfl) (ya1 (OC H) m)
def ze2:List AV:=[.sl [[.str [108,105,98],.str [49],.str [114],.sl [[.str [102,46,115,114,99],sF],[.str [114],sE],[.str [114,101,97,100,46,109,101],.str []]]],[.str [97,112,112],.str [50],.str [114],.sl [[.str [114],.str []]]]]]
def ze3:AV:=.tup [.agg [.sl [[.str [97,112,112,47,114],.str []],[.str [108,105,98,47,102,46,111],EU],[nK,sF],[JV,EU],[.str [108,105,98,47,114],sE],[QF,.str []]],.sl [[JV]],.sl [[.n 0,.n 0,.n 1,.sl [[nK,QE]],.str [108,105,98,47,102,46,111],ET],[.n 0,.n 1,.n 8,.sl [[.str [108,105,98,47,102,46,111],ET]],JV,ET]]],.agg [.n 0,.n 0,.n 0,.str [],.n 0]]
theorem zZ5(m:GvP):at1 (mQ Tryz.prog (gv1 m) qR 2000 (LR m) 60) Fn.ep ze2=some ze3:=by kernel_rfl
def zc2:List AV->Option AV:=oU ze2 ze3
theorem zZ6(H:∀m,GamOK Tryz.prog (gv1 m) (LR m))(m:GvP):dW Tryz.prog (gv1 m) Fn.ep zc2:=yX (pH (by kernel_rfl) (H m) 60) (zZ5 m)
end Go.Proofs.YtdebajodkallbaaGreatDoor
