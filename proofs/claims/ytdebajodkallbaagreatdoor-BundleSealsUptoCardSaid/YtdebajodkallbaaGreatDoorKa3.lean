/- compile -/
import Derived.Test.YtdebajodkallbaaGreatDoorKa1
namespace Go.Proofs.YtdebajodkallbaaGreatDoor
open Go.RowKit
def zg1:List AV:=[.sl [[nK,sF],[.str [108,105,98,47,114],sE],[QF,.str []]],nK,.sl []]
def zg2:AV:=.tup [.agg [.sl [[.str [120],.n 1,.n 0]],.sl [[.n 2,.str [7,0,0,0],.sl []]]],.agg [.sl [[nK,.n 0,.n 1]],.sl [[nK]],.sl [[.sl [[nK,.n 1,.n 2]]]]],.agg [.n 0,.n 0,.n 0,.str [],.n 0]]
theorem yb0(m:GvP):at1 (mQ Tryz.prog (gv1 m) qR 2000 (B46 m) 60) Fn.es zg1=some zg2:=by kernel_rfl
def zc8:List AV->Option AV:=oU zg1 zg2
theorem yb1(H:∀m,GamOK Tryz.prog (gv1 m) (B46 m))(m:GvP):dW Tryz.prog (gv1 m) Fn.es zc8:=yX (pH (by kernel_rfl) (H m) 60) (yb0 m)
end Go.Proofs.YtdebajodkallbaaGreatDoor
