/- recipe -/
import Derived.Test.YtdebajodkallbaaGreatDoorKa1
namespace Go.Proofs.YtdebajodkallbaaGreatDoor
open Go.RowKit
def zf3:List AV:=[sE]
def zf4:AV:=.tup [.sl [[.n 0,.n 1,.sl [[.str [102,46,115,114,99]]],.sl [],.sl [],.str [102,46,111]],[.n 1,.n 8,.sl [[.str [102,46,111]]],.sl [],.sl [],.str [111,47,108,105,98]]],.n (-1),.n 0]
theorem ya4(m:GvP):at1 (mQ Tryz.prog (gv1 m) qR 2000 (B46 m) 40) Fn.em zf3=some zf4:=by kernel_rfl
def zf5:List AV:=[.str []]
def zf6:AV:=.tup [.sl [],.n (-1),.n 0]
theorem ya5(m:GvP):at1 (mQ Tryz.prog (gv1 m) qR 2000 (B46 m) 40) Fn.em zf5=some zf6:=by kernel_rfl
def zc6:List AV->Option AV:=GQ (oU zf3 zf4) (oU zf5 zf6)
theorem ya6(H:∀m,GamOK Tryz.prog (gv1 m) (B46 m))(m:GvP):dW Tryz.prog (gv1 m) Fn.em zc6:=XB (yX (pH (by kernel_rfl) (H m) 40) (ya4 m)) (yX (pH (by kernel_rfl) (H m) 40) (ya5 m))
def zf1:List AV:=[.agg [.sl [[.str [120],.n 1,.n 0]],.sl [[.n 2,.str [7,0,0,0],.sl []]]]]
def zf2:AV:=.tup [EU,.n 0]
theorem ya2(m:GvP):at1 (mQ Tryz.prog (gv1 m) qR 2000 (B46 m) 40) Fn.er zf1=some zf2:=by kernel_rfl
def zc5:List AV->Option AV:=oU zf1 zf2
theorem ya3(H:∀m,GamOK Tryz.prog (gv1 m) (B46 m))(m:GvP):dW Tryz.prog (gv1 m) Fn.er zc5:=yX (pH (by kernel_rfl) (H m) 40) (ya2 m)
def zf7:List AV:=[sF]
def zf8:AV:=QE
theorem ya7:oT zf7=some zf8:=by kernel_rfl
def zf9:List AV:=[EU]
def zg0:AV:=ET
theorem ya8:oT zf9=some zg0:=by kernel_rfl
theorem zQ3{P:Program}{c:Gv}{f:FuncId}{F:List AV->Option AV}(h:dW P c f F){b:List AV}{d:AV}(e:F b=some d):dW P c f (oU b d):=XQ h fun i r a=>by
 unfold oU at a;split at a
 ·rename_i g;injection a with a;subst a;rw[tR _ _ g];exact e
 ·cases a
def zc7:List AV->Option AV:=GQ (oU zf7 zf8) (oU zf9 zg0)
theorem ya9{P:Program}{a:Gv}{f:FuncId}(h:dW P a f oT):dW P a f zc7:=XB (zQ3 h ya7) (zQ3 h ya8)
end Go.Proofs.YtdebajodkallbaaGreatDoor
