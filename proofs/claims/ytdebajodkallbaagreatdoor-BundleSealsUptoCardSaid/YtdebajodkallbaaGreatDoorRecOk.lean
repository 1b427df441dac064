/- The resolved functions are the functio -/
import Derived.Test.YtdebajodkallbaaGreatDoorRecMc
import Derived.Test.YtdebajodkallbaaGreatDoorAm9
import Derived.Test.YtdebajodkallbaaGreatDoorChecked
import Derived.Lib.ItoaNum
namespace Go.Proofs.YtdebajodkallbaaGreatDoor
structure GvP where
 m:Int
 t4:TypeId
 p4:Value
 t5:TypeId
 p5:Value
def gv1(m:GvP):Gv:=⟨fun g=>if g=0 then some [.int .i64 m.m]else none,fun g=>if g=1 then some (Lib.pow10Tab.map fun z=>Value.int .u64 z)else if g=6 then some [.iface m.t4 m.p4]else if g=7 then some [.iface m.t5 m.p5]else none⟩
abbrev CK(L:GvP->Prop)(G:Gam):Prop:=∀m,L m->GamOK Tryz.prog (gv1 m) G
def dls:MC->List (List Nat)
 |.seq a b=>dls a++dls b|.ite _ a b=>dls a++dls b|.blk _ a=>dls a|.loop d a=>d::dls a|.rgf _ _ a b=>dls a++dls b|_=>[]
noncomputable def fnA(f:FuncId):Func:=(Tryz.prog.funcs[f]?).getD default
noncomputable abbrev fnB(f:FuncId):Code:=(fnA f).body.getD .skip
theorem mO:Tryz.prog.follows .mixedOrders=true:=by kernel_rfl
structure FA(f:FuncId)(ks:List Nat)(rs:List RV)(ow:List Nat)(mc:MC):Prop where
 e:AZ Tryz.prog f=true:=by kernel_rfl h1:Tryz.prog.funcs[f]?=some (fnA f):=by kernel_rfl h2:(fnA f).body=some (fnB f):=by kernel_rfl h3:ks.all (fun k=>decide (k<(fnA f).ntmps))=true:=by kernel_rfl h4:mD Tryz.prog (fnA f).results.toList=some rs:=by kernel_rfl h5:∀m,(nH Tryz.prog (gv1 m) ks (fnA f).ntmps ow (fnB f) (dls mc)).1=mc:=by intro m;kernel_rfl
section
variable{L:GvP->Prop}{G:Gam}{f:FuncId}{ks:List Nat}{rs:List RV}{mc:MC}
theorem aH{c:CT}(g:CK L G)(h:∀m,L m->c.OK Tryz.prog (gv1 m) f)(e:AZ Tryz.prog f=true:=by kernel_rfl):CK L (G.add f c):=fun m H=>uA (g m H) e (h m H)
theorem aP(g:CK L G){F:List AV->Option AV}(b:∀a r,F a=some r->wpM G mc (aD rs r) [] (aC ks a) [])(ow:List Nat:=[])(h:FA f ks rs ow mc:=by exact{}):CK L (G.add f (.pure F)):=aH g (fun m H=>XR mO (g m H) h.h1 h.h2 h.h3 h.h4 (h.h5 m) b) h.e
theorem aL(g:CK L G){F:List AV->aA->Option AV}(b:∀a h r,F a h=some r->wpM G mc (fP rs r h) [] (aC ks a) h)(c:List Nat:=[])(h:FA f ks rs c mc:=by exact{}):CK L (G.add f (.gen (cJ F))):=aH g (fun m H=>zz4 mO (g m H) h.h1 h.h2 h.h3 h.h4 (h.h5 m) b) h.e
theorem aG(g:CK L G){F:List AV->aA->Option (AV×aA)}(c:∀a h r b,F a h=some (r,b)->wpM G mc (dM rs r b) [] (aC ks a) h)(ow:List Nat:=[])(h:FA f ks rs ow mc:=by exact{}):CK L (G.add f (.gen F)):=aH g (fun m H=>zu1 mO (g m H) h.h1 h.h2 h.h3 h.h4 (h.h5 m) c) h.e
theorem aZ(g:CK L G){F:List AV->aA->Option (AV×aA)}(c:∀a h r b,bN h.length a=true->cV h.length h=true->F a h=some (r,b)->wpM G mc (jW h.length rs r b) [] (aC ks a) h)(d:List Nat:=[])(h:FA f ks rs d mc:=by exact{}):CK L (G.add f (.gen F)):=aH g (fun m H=>zt7 mO (g m H) h.h1 h.h2 h.h3 h.h4 (h.h5 m) c) h.e
end
end Go.Proofs.YtdebajodkallbaaGreatDoor
