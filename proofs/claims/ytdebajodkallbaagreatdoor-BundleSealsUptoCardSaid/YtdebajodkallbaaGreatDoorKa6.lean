/- (*licit/build -/
import Derived.Test.YtdebajodkallbaaGreatDoorKa4
namespace Go.Proofs.YtdebajodkallbaaGreatDoor
open Go.RowKit
def ze8:List AV:=[.ptr 3 0,.ptr 13 0]
def ze9:aA:=[EQ,mT,QB,QC,EM,ER,EL,EN,EP,.cellsT none [.ptr 3 0],mT,sD,sD,zx7,.arrX false none 1 0 [] true,JU,.arrX false none 1 0 [] true,.arrX false none 1 0 [] false,.arrX false none 1 0 [] true,EO,.dead]
def zf0:AV×aA:=(.tup [EU,.n 0],[EQ,mT,QB,QC,EM,ER,EL,EN,EP,.cellsT none [.ptr 3 0],mT,sD,sD,VP,.arrX false none 1 0 [] true,JU,.arrX false none 1 0 [] true,.arrX false none 1 0 [] false,.arrX false none 1 0 [] true,EO,.dead])
theorem ya0(m:GvP):IG (mQ Tryz.prog (gv1 m) qR 2000 (sR m) 40) Fn.et ze8 ze9=some zf0:=by kernel_rfl
def zc4:List AV->aA->Option (AV×aA):=GU ze8 ze9 zf0
theorem ya1(H:∀m,GamOK Tryz.prog (gv1 m) (sR m))(m:GvP):fA Tryz.prog (gv1 m) Fn.et zc4:=ZH (pH (by kernel_rfl) (H m) 40) (ya0 m)
end Go.Proofs.YtdebajodkallbaaGreatDoor
