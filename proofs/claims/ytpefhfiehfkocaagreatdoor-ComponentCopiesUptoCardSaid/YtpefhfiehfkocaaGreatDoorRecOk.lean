/- The resolved functions are the functio -/
import Derived.Test.YtpefhfiehfkocaaGreatDoorChecked
import Derived.Test.YtpefhfiehfkocaaGreatDoorRmI
namespace Go.Proofs.YtpefhfiehfkocaaGreatDoor
structure GvP where
 m:Int
 t4:TypeId
 p4:Value
 t5:TypeId
 p5:Value
def gv1(m:GvP):Gv:=⟨fun g=>if g=0 then some [.int .i64 m.m]else none,fun g=>if g=5 then some (Lib.pow10Tab.map fun z=>Value.int .u64 z)else if g=3 then some [.iface m.t4 m.p4]else if g=4 then some [.iface m.t5 m.p5]else none⟩
abbrev CK(L:GvP->Prop)(G:Gam):Prop:=∀m,L m->GamOK Tryz.prog (gv1 m) G
def dls:MC->List (List Nat)
 |.seq a b=>dls a++dls b|.ite _ a b=>dls a++dls b|.blk _ a=>dls a|.loop d a=>d::dls a|.rgf _ _ a b=>dls a++dls b|_=>[]
noncomputable def fnA(f:FuncId):Func:=(Tryz.prog.funcs[f]?).getD default
noncomputable abbrev fnB(f:FuncId):Code:=(fnA f).body.getD .skip
theorem mO:Tryz.prog.follows .mixedOrders=true:=by kernel_rfl
structure FA(f:FuncId)(ks:List Nat)(rs:List RV)(ow:List Nat)(mc:MC):Prop where
 e:zY Tryz.prog f=true:=by kernel_rfl h1:Tryz.prog.funcs[f]?=some (fnA f):=by kernel_rfl h2:(fnA f).body=some (fnB f):=by kernel_rfl h3:ks.all (fun k=>decide (k<(fnA f).ntmps))=true:=by kernel_rfl h4:lE Tryz.prog (fnA f).results.toList=some rs:=by kernel_rfl h5:∀m,(bU Tryz.prog (gv1 m) ks (fnA f).ntmps ow (fnB f) (dls mc)).1=mc:=by intro m;kernel_rfl
section
variable{L:GvP->Prop}{G:Gam}{f:FuncId}{ks:List Nat}{rs:List RV}{mc:MC}
theorem aH{c:CT}(g:CK L G)(h:∀m,L m->c.OK Tryz.prog (gv1 m) f)(e:zY Tryz.prog f=true:=by kernel_rfl):CK L (G.add f c):=fun m H=>bD (g m H) e (h m H)
theorem aP(g:CK L G){F:List AV->Option AV}(b:∀a r,F a=some r->wpM G mc (aJ rs r) [] (aC ks a) [])(c:List Nat:=[])(h:FA f ks rs c mc:=by exact{}):CK L (G.add f (.pure F)):=aH g (fun m H=>hJ mO (g m H) h.h1 h.h2 h.h3 h.h4 (h.h5 m) b) h.e
theorem aL(g:CK L G){F:List AV->aA->Option AV}(b:∀a h r,F a h=some r->wpM G mc (eQ rs r h) [] (aC ks a) h)(c:List Nat:=[])(h:FA f ks rs c mc:=by exact{}):CK L (G.add f (.gen (bO F))):=aH g (fun m H=>oP mO (g m H) h.h1 h.h2 h.h3 h.h4 (h.h5 m) b) h.e
theorem aG(g:CK L G){F:List AV->aA->Option (AV×aA)}(c:∀a h r b,F a h=some (r,b)->wpM G mc (eF rs r b) [] (aC ks a) h)(ow:List Nat:=[])(h:FA f ks rs ow mc:=by exact{}):CK L (G.add f (.gen F)):=aH g (fun m H=>mB mO (g m H) h.h1 h.h2 h.h3 h.h4 (h.h5 m) c) h.e
theorem aZ(g:CK L G){F:List AV->aA->Option (AV×aA)}(c:∀a h r b,bA h.length a=true->bG h.length h=true->F a h=some (r,b)->wpM G mc (iO h.length rs r b) [] (aC ks a) h)(d:List Nat:=[])(h:FA f ks rs d mc:=by exact{}):CK L (G.add f (.gen F)):=aH g (fun m H=>tB mO (g m H) h.h1 h.h2 h.h3 h.h4 (h.h5 m) c) h.e
end
theorem Ok.ci(m:GvP):(bU Tryz.prog (gv1 m) Ks.ci Tryz.f136.ntmps [] (Tryz.f136.body.getD .skip) Dl.ci).1=Mc.ci:=by kernel_rfl
theorem Ok.aj(m:GvP):(bU Tryz.prog (gv1 m) Ks.aj Tryz.f140.ntmps [] (Tryz.f140.body.getD .skip) Dl.aj).1=Mc.aj:=by kernel_rfl
theorem Ok.be(m:GvP):(bU Tryz.prog (gv1 m) Ks.be Tryz.f150.ntmps [] (Tryz.f150.body.getD .skip) Dl.be).1=Mc.be:=by kernel_rfl
theorem Ok.ac(m:GvP):(bU Tryz.prog (gv1 m) Ks.ac Tryz.f138.ntmps [] (Tryz.f138.body.getD .skip) Dl.ac).1=Mc.ac:=by kernel_rfl
theorem Ok.aq(m:GvP):(bU Tryz.prog (gv1 m) Ks.aq Tryz.f214.ntmps [] (Tryz.f214.body.getD .skip) Dl.aq).1=Mc.aq:=by kernel_rfl
theorem Ok.cd(m:GvP):(bU Tryz.prog (gv1 m) Ks.cd Tryz.f215.ntmps [] (Tryz.f215.body.getD .skip) Dl.cd).1=Mc.cd:=by kernel_rfl
theorem Ok.an(m:GvP):(bU Tryz.prog (gv1 m) Ks.an Tryz.f217.ntmps [] (Tryz.f217.body.getD .skip) Dl.an).1=Mc.an:=by kernel_rfl
theorem Ok.b8(m:GvP):(bU Tryz.prog (gv1 m) Ks.b8 Tryz.f233.ntmps [] (Tryz.f233.body.getD .skip) Dl.b8).1=Mc.b8:=by kernel_rfl
theorem Ok.bm(m:GvP):(bU Tryz.prog (gv1 m) Ks.bm Tryz.f321.ntmps [] (Tryz.f321.body.getD .skip) Dl.bm).1=Mc.bm:=by kernel_rfl
theorem Ok.az(a:Gv):(bU Tryz.prog a Ks.az Tryz.f74.ntmps [] (Tryz.f74.body.getD .skip) Dl.az).1=Mc.az:=by kernel_rfl
theorem Ok.bw(a:Gv):(bU Tryz.prog a Ks.bw Tryz.f112.ntmps [] (Tryz.f112.body.getD .skip) Dl.bw).1=Mc.bw:=by kernel_rfl
theorem Ok.cc(a:Gv):(bU Tryz.prog a Ks.cc Tryz.f75.ntmps [] (Tryz.f75.body.getD .skip) Dl.cc).1=Mc.cc:=by kernel_rfl
theorem GenZ.az{b:Gv}{G:Gam}(e:GamOK Tryz.prog b G){F:List AV->aA->Option (AV×aA)}(d:∀a h r c,bA h.length a=true->bG h.length h=true->F a h=some (r,c)->wpM G Mc.az (jM h.length Rs.az r c) [] (aC Ks.az a) h):gG Tryz.prog b Fn.az F:=uY (by kernel_rfl) e Tryz.func74 rfl (ks:=Ks.az) (rs:=Rs.az) (by kernel_rfl) (by kernel_rfl) (Ok.az b) d
theorem LookB.bw{a:Gv}{G:Gam}(c:GamOK Tryz.prog a G){F:List AV->aA->Option AV}(b:LW G Mc.bw Rs.bw Ks.bw F):gG Tryz.prog a Fn.bw (bO F):=oP (by kernel_rfl) c Tryz.func112 rfl (ks:=Ks.bw) (rs:=Rs.bw) (by kernel_rfl) (by kernel_rfl) (Ok.bw a) b
theorem PureB.cc{a:Gv}{G:Gam}(c:GamOK Tryz.prog a G){F:List AV->Option AV}(b:PW G Mc.cc Rs.cc Ks.cc F):dP Tryz.prog a Fn.cc F:=hJ (by kernel_rfl) c Tryz.func75 rfl (ks:=Ks.cc) (rs:=Rs.cc) (by kernel_rfl) (by kernel_rfl) (Ok.cc a) b
end Go.Proofs.YtpefhfiehfkocaaGreatDoor
