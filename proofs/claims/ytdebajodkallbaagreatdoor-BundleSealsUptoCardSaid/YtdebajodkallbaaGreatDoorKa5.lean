/- (*licit/build -/
import Derived.Test.YtdebajodkallbaaGreatDoorKa4
namespace Go.Proofs.YtdebajodkallbaaGreatDoor
open Go.RowKit
def zd6:List AV:=[.ptr 3 0,.agg [.n 0,.n 1,.sl [[.str [102,46,115,114,99]]],.sl [],.sl [],.str [102,46,111]]]
def zd7:aA:=[EQ,mT,QB,QC,EM,ER,EL,EN,EP,.cellsT none [.ptr 3 0],mT,sD]
def zd8:AV×aA:=(.tup [.ptr 13 0,.n 0],[EQ,mT,QB,QC,EM,ER,EL,EN,EP,.cellsT none [.ptr 3 0],mT,sD,sD,zx7,.arrX false none 1 0 [] true,JU,.arrX false none 1 0 [] true,.arrX false none 1 0 [] false,.arrX false none 1 0 [] true,EO,.dead])
theorem zZ2(m:GvP):IG (mQ Tryz.prog (gv1 m) qR 2000 (sR m) 40) Fn.eo zd6 zd7=some zd8:=by kernel_rfl
def zd9:List AV:=[.ptr 3 0,.agg [.n 1,.n 8,.sl [[.str [102,46,111]]],.sl [],.sl [],.str [111,47,108,105,98]]]
def ze0:aA:=[EQ,mT,zy0,zx6,EM,ER,EL,EN,EP,.cellsT none [.ptr 3 0],mT,sD,sD,VP,.arrX false none 1 0 [] true,JU,.arrX false none 1 0 [] true,.arrX false none 1 0 [] false,.arrX false none 1 0 [] true,EO,.dead,.arrX false none 2 0 [] true,zx8,.arrX false none 2 0 [] true,zx9,zy1,mT,.cellsT none [.ptr 3 0],mT,VO]
def ze1:AV×aA:=(.tup [.ptr 31 0,.n 0],[EQ,mT,zy0,zx6,EM,ER,EL,EN,EP,.cellsT none [.ptr 3 0],mT,sD,sD,VP,.arrX false none 1 0 [] true,JU,.arrX false none 1 0 [] true,.arrX false none 1 0 [] false,.arrX false none 1 0 [] true,EO,.dead,.arrX false none 2 0 [] true,zx8,.arrX false none 2 0 [] true,zx9,zy1,mT,.cellsT none [.ptr 3 0],mT,VO,VO,.cellsT none [.n 1,.n 8,.sl [[.str [102,46,111]]],.sl [],.sl [],.str [111,47,108,105,98],.sl [[.str [108,105,98,47,102,46,111]]],.sl [],JV,.nils],.arrX false none 1 0 [] true,EO,.arrX false none 1 0 [] true,.arrX false none 1 0 [] false,.arrX false none 1 0 [] true,.arrX false none 1 1 [[JV]] false,.dead])
theorem zZ3(m:GvP):IG (mQ Tryz.prog (gv1 m) qR 2000 (sR m) 40) Fn.eo zd9 ze0=some ze1:=by kernel_rfl
def zc1:List AV->aA->Option (AV×aA):=SU (GU zd6 zd7 zd8) (GU zd9 ze0 ze1)
theorem zZ4(H:∀m,GamOK Tryz.prog (gv1 m) (sR m))(m:GvP):fA Tryz.prog (gv1 m) Fn.eo zc1:=xc7 (ZH (pH (by kernel_rfl) (H m) 40) (zZ2 m)) (ZH (pH (by kernel_rfl) (H m) 40) (zZ3 m))
end Go.Proofs.YtdebajodkallbaaGreatDoor
