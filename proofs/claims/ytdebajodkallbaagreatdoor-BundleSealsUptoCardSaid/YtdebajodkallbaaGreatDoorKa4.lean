/- What was run,as contracts -/
import Derived.Test.YtdebajodkallbaaGreatDoorKa2
import Derived.Test.YtdebajodkallbaaGreatDoorKa3
namespace Go.Proofs.YtdebajodkallbaaGreatDoor
open Go.RowKit
noncomputable section
def za4(m:GvP):Gam:=(B46 m).add Fn.em (.pure zc6)
theorem yf8(H:∀m,GamOK Tryz.prog (gv1 m) (B46 m))(m:GvP):GamOK Tryz.prog (gv1 m) (za4 m):=uA (H m) (by kernel_rfl) (ya6 H m)
def za5(m:GvP):Gam:=(za4 m).add Fn.es (.pure zc8)
theorem yf9(H:∀m,GamOK Tryz.prog (gv1 m) (B46 m))(m:GvP):GamOK Tryz.prog (gv1 m) (za5 m):=uA (yf8 H m) (by kernel_rfl) (yb1 H m)
def za6(m:GvP):Gam:=(za5 m).add Fn.er (.pure zc5)
theorem yg0(H:∀m,GamOK Tryz.prog (gv1 m) (B46 m))(m:GvP):GamOK Tryz.prog (gv1 m) (za6 m):=uA (yf9 H m) (by kernel_rfl) (ya3 H m)
def sR(m:GvP):Gam:=(za6 m).add Fn.co (.pure zc7)
theorem OC(H:∀m,GamOK Tryz.prog (gv1 m) (B46 m))(m:GvP):GamOK Tryz.prog (gv1 m) (sR m):=uA (yg0 H m) (by kernel_rfl) (ya9 ((H m).ok Fn.co (.pure oT) (by rfl)))
def ze4:List AV:=[.sl [[.str [108,105,98],.str [49],.str [114],.sl [[.str [102,46,115,114,99],sF],[.str [114],sE],[.str [114,101,97,100,46,109,101],.str []]]],[.str [97,112,112],.str [50],.str [114],.sl [[.str [114],.str []]]]]]
def ze5:AV:=.n 0
theorem zZ7(m:GvP):at1 (mQ Tryz.prog (gv1 m) qR 2000 (sR m) 40) Fn.ei ze4=some ze5:=by kernel_rfl
def ze6:List AV:=[.sl [[.str [108,105,98],.str [49],.str [114],.sl [[.str [102,46,115,114,99],sF],[.str [114],sE]]]]]
def ze7:AV:=.n 0
theorem zZ8(m:GvP):at1 (mQ Tryz.prog (gv1 m) qR 2000 (sR m) 40) Fn.ei ze6=some ze7:=by kernel_rfl
def zc3:List AV->Option AV:=GQ (oU ze4 ze5) (oU ze6 ze7)
theorem zZ9(H:∀m,GamOK Tryz.prog (gv1 m) (sR m))(m:GvP):dW Tryz.prog (gv1 m) Fn.ei zc3:=XB (yX (pH (by kernel_rfl) (H m) 40) (zZ7 m)) (yX (pH (by kernel_rfl) (H m) 40) (zZ8 m))
end
end Go.Proofs.YtdebajodkallbaaGreatDoor
