/- The resolved functions are the functio -/
import Derived.Test.YtpefhfiehfkocaaGreatDoorNG
import Derived.Test.YtpefhfiehfkocaaGreatDoorOR
namespace Go.Proofs.YtpefhfiehfkocaaGreatDoor
open Go.RowKit
noncomputable section
theorem Ok.bb(m:GvP):(bU Tryz.prog (gv1 m) Ks.bb Tryz.f82.ntmps [] (Tryz.f82.body.getD .skip) Dl.bb).1=Mc.bb:=by kernel_rfl
theorem Ok.af(m:GvP):(bU Tryz.prog (gv1 m) Ks.af Tryz.f137.ntmps [] (Tryz.f137.body.getD .skip) Dl.af).1=Mc.af:=by kernel_rfl
theorem Ok.ag(m:GvP):(bU Tryz.prog (gv1 m) Ks.ag Tryz.f139.ntmps [] (Tryz.f139.body.getD .skip) Dl.ag).1=Mc.ag:=by kernel_rfl
theorem Ok.aw(m:GvP):(bU Tryz.prog (gv1 m) Ks.aw Tryz.f141.ntmps [] (Tryz.f141.body.getD .skip) Dl.aw).1=Mc.aw:=by kernel_rfl
theorem Ok.bo(m:GvP):(bU Tryz.prog (gv1 m) Ks.bo Tryz.f142.ntmps [] (Tryz.f142.body.getD .skip) Dl.bo).1=Mc.bo:=by kernel_rfl
theorem Ok.ar(m:GvP):(bU Tryz.prog (gv1 m) Ks.ar Tryz.f143.ntmps [] (Tryz.f143.body.getD .skip) Dl.ar).1=Mc.ar:=by kernel_rfl
theorem Ok.ax(m:GvP):(bU Tryz.prog (gv1 m) Ks.ax Tryz.f144.ntmps [] (Tryz.f144.body.getD .skip) Dl.ax).1=Mc.ax:=by kernel_rfl
theorem Ok.bp(m:GvP):(bU Tryz.prog (gv1 m) Ks.bp Tryz.f145.ntmps [] (Tryz.f145.body.getD .skip) Dl.bp).1=Mc.bp:=by kernel_rfl
theorem Ok.av(m:GvP):(bU Tryz.prog (gv1 m) Ks.av Tryz.f146.ntmps [] (Tryz.f146.body.getD .skip) Dl.av).1=Mc.av:=by kernel_rfl
theorem Ok.bq(m:GvP):(bU Tryz.prog (gv1 m) Ks.bq Tryz.f147.ntmps [] (Tryz.f147.body.getD .skip) Dl.bq).1=Mc.bq:=by kernel_rfl
theorem Ok.ay(m:GvP):(bU Tryz.prog (gv1 m) Ks.ay Tryz.f148.ntmps [] (Tryz.f148.body.getD .skip) Dl.ay).1=Mc.ay:=by kernel_rfl
theorem Ok.br(m:GvP):(bU Tryz.prog (gv1 m) Ks.br Tryz.f149.ntmps [] (Tryz.f149.body.getD .skip) Dl.br).1=Mc.br:=by kernel_rfl
theorem Ok.ab(m:GvP):(bU Tryz.prog (gv1 m) Ks.ab Tryz.f151.ntmps [] (Tryz.f151.body.getD .skip) Dl.ab).1=Mc.ab:=by kernel_rfl
theorem Ok.a0(m:GvP):(bU Tryz.prog (gv1 m) Ks.a0 Tryz.f272.ntmps [] (Tryz.f272.body.getD .skip) Dl.a0).1=Mc.a0:=by kernel_rfl
theorem Ok.ak(m:GvP):(bU Tryz.prog (gv1 m) Ks.ak Tryz.f218.ntmps [] (Tryz.f218.body.getD .skip) Dl.ak).1=Mc.ak:=by kernel_rfl
theorem Ok.ae(m:GvP):(bU Tryz.prog (gv1 m) Ks.ae Tryz.f219.ntmps [] (Tryz.f219.body.getD .skip) Dl.ae).1=Mc.ae:=by kernel_rfl
theorem Ok.bi(m:GvP):(bU Tryz.prog (gv1 m) Ks.bi Tryz.f220.ntmps [] (Tryz.f220.body.getD .skip) Dl.bi).1=Mc.bi:=by kernel_rfl
theorem Ok.a6(m:GvP):(bU Tryz.prog (gv1 m) Ks.a6 Tryz.f221.ntmps Ow.binary_exported (Tryz.f221.body.getD .skip) Dl.a6).1=Mc.a6:=by kernel_rfl
theorem Ok.bz(m:GvP):(bU Tryz.prog (gv1 m) Ks.bz Tryz.f352.ntmps [] (Tryz.f352.body.getD .skip) Dl.bz).1=Mc.bz:=by kernel_rfl
theorem Ok.bc(m:GvP):(bU Tryz.prog (gv1 m) Ks.bc Tryz.f302.ntmps [] (Tryz.f302.body.getD .skip) Dl.bc).1=Mc.bc:=by kernel_rfl
theorem Ok.b4(m:GvP):(bU Tryz.prog (gv1 m) Ks.b4 Tryz.f303.ntmps [] (Tryz.f303.body.getD .skip) Dl.b4).1=Mc.b4:=by kernel_rfl
theorem Ok.ah(m:GvP):(bU Tryz.prog (gv1 m) Ks.ah Tryz.f304.ntmps [] (Tryz.f304.body.getD .skip) Dl.ah).1=Mc.ah:=by kernel_rfl
theorem Ok.b9(m:GvP):(bU Tryz.prog (gv1 m) Ks.b9 Tryz.f305.ntmps [] (Tryz.f305.body.getD .skip) Dl.b9).1=Mc.b9:=by kernel_rfl
theorem Ok.b0(m:GvP):(bU Tryz.prog (gv1 m) Ks.b0 Tryz.f307.ntmps [] (Tryz.f307.body.getD .skip) Dl.b0).1=Mc.b0:=by kernel_rfl
theorem Ok.b1(m:GvP):(bU Tryz.prog (gv1 m) Ks.b1 Tryz.f309.ntmps [] (Tryz.f309.body.getD .skip) Dl.b1).1=Mc.b1:=by kernel_rfl
theorem Ok.a1(m:GvP):(bU Tryz.prog (gv1 m) Ks.a1 Tryz.f310.ntmps [] (Tryz.f310.body.getD .skip) Dl.a1).1=Mc.a1:=by kernel_rfl
theorem Ok.bh(m:GvP):(bU Tryz.prog (gv1 m) Ks.bh Tryz.f311.ntmps [] (Tryz.f311.body.getD .skip) Dl.bh).1=Mc.bh:=by kernel_rfl
theorem Ok.ai(m:GvP):(bU Tryz.prog (gv1 m) Ks.ai Tryz.f424.ntmps [] (Tryz.f424.body.getD .skip) Dl.ai).1=Mc.ai:=by kernel_rfl
theorem Ok.bg(m:GvP):(bU Tryz.prog (gv1 m) Ks.bg Tryz.f386.ntmps [] (Tryz.f386.body.getD .skip) Dl.bg).1=Mc.bg:=by kernel_rfl
theorem Ok.bf(m:GvP):(bU Tryz.prog (gv1 m) Ks.bf Tryz.f387.ntmps [] (Tryz.f387.body.getD .skip) Dl.bf).1=Mc.bf:=by kernel_rfl
theorem Ok.a5(m:GvP):(bU Tryz.prog (gv1 m) Ks.a5 Tryz.f394.ntmps [] (Tryz.f394.body.getD .skip) Dl.a5).1=Mc.a5:=by kernel_rfl
theorem Ok.b5(m:GvP):(bU Tryz.prog (gv1 m) Ks.b5 Tryz.f486.ntmps [] (Tryz.f486.body.getD .skip) Dl.b5).1=Mc.b5:=by kernel_rfl
theorem Ok.bn(m:GvP):(bU Tryz.prog (gv1 m) Ks.bn Tryz.f487.ntmps [] (Tryz.f487.body.getD .skip) Dl.bn).1=Mc.bn:=by kernel_rfl
theorem Ok.ce(m:GvP):(bU Tryz.prog (gv1 m) Ks.ce Tryz.f488.ntmps [] (Tryz.f488.body.getD .skip) Dl.ce).1=Mc.ce:=by kernel_rfl
theorem Ok.ao(m:GvP):(bU Tryz.prog (gv1 m) Ks.ao Tryz.f489.ntmps [] (Tryz.f489.body.getD .skip) Dl.ao).1=Mc.ao:=by kernel_rfl
theorem Ok.aa(m:GvP):(bU Tryz.prog (gv1 m) Ks.aa Tryz.f490.ntmps [] (Tryz.f490.body.getD .skip) Dl.aa).1=Mc.aa:=by kernel_rfl
theorem Ok.bx(m:GvP):(bU Tryz.prog (gv1 m) Ks.bx Tryz.f308.ntmps [] (Tryz.f308.body.getD .skip) Dl.bx).1=Mc.bx:=by kernel_rfl
theorem Ok.ck(m:GvP):(bU Tryz.prog (gv1 m) Ks.ck Tryz.f306.ntmps [] (Tryz.f306.body.getD .skip) Dl.ck).1=Mc.ck:=by kernel_rfl
theorem Ok.bj(m:GvP):(bU Tryz.prog (gv1 m) Ks.bj Tryz.f395.ntmps [] (Tryz.f395.body.getD .skip) Dl.bj).1=Mc.bj:=by kernel_rfl
theorem Ok.a4(m:GvP):(bU Tryz.prog (gv1 m) Ks.a4 Tryz.f393.ntmps [] (Tryz.f393.body.getD .skip) Dl.a4).1=Mc.a4:=by kernel_rfl
theorem Ok.ba(m:GvP):(bU Tryz.prog (gv1 m) Ks.ba Tryz.f546.ntmps [] (Tryz.f546.body.getD .skip) Dl.ba).1=Mc.ba:=by kernel_rfl
theorem Ok.b7(m:GvP):(bU Tryz.prog (gv1 m) Ks.b7 Tryz.f291.ntmps [] (Tryz.f291.body.getD .skip) Dl.b7).1=Mc.b7:=by kernel_rfl
theorem Ok.bl(m:GvP):(bU Tryz.prog (gv1 m) Ks.bl Tryz.f207.ntmps Ow._origin_flows__copy (Tryz.f207.body.getD .skip) Dl.bl).1=Mc.bl:=by kernel_rfl
theorem Ok.cg(m:GvP):(bU Tryz.prog (gv1 m) Ks.cg Tryz.f83.ntmps [] (Tryz.f83.body.getD .skip) Dl.cg).1=Mc.cg:=by kernel_rfl
theorem Ok.a8(m:GvP):(bU Tryz.prog (gv1 m) Ks.a8 Tryz.f84.ntmps Ow.__origin_Tracer__Segments (Tryz.f84.body.getD .skip) Dl.a8).1=Mc.a8:=by kernel_rfl
theorem Ok.ad(m:GvP):(bU Tryz.prog (gv1 m) Ks.ad Tryz.f86.ntmps [] (Tryz.f86.body.getD .skip) Dl.ad).1=Mc.ad:=by kernel_rfl
theorem Ok.a3(m:GvP):(bU Tryz.prog (gv1 m) Ks.a3 Tryz.f78.ntmps Ow.influence_traced (Tryz.f78.body.getD .skip) Dl.a3).1=Mc.a3:=by kernel_rfl
theorem Ok.bu(m:GvP):(bU Tryz.prog (gv1 m) Ks.bu Tryz.f80.ntmps Ow.__influence_trace__influence (Tryz.f80.body.getD .skip) Dl.bu).1=Mc.bu:=by kernel_rfl
theorem Ok.a9(m:GvP):(bU Tryz.prog (gv1 m) Ks.a9 Tryz.f130.ntmps [] (Tryz.f130.body.getD .skip) Dl.a9).1=Mc.a9:=by kernel_rfl
theorem Ok.b2(m:GvP):(bU Tryz.prog (gv1 m) Ks.b2 Tryz.f43.ntmps Ow.influence_Of (Tryz.f43.body.getD .skip) Dl.b2).1=Mc.b2:=by kernel_rfl
theorem Ok.a2(m:GvP):(bU Tryz.prog (gv1 m) Ks.a2 Tryz.f159.ntmps Ow.a2 (Tryz.f159.body.getD .skip) Dl.a2).1=Mc.a2:=by kernel_rfl
theorem Ok.bv(m:GvP):(bU Tryz.prog (gv1 m) Ks.bv Tryz.f152.ntmps [] (Tryz.f152.body.getD .skip) Dl.bv).1=Mc.bv:=by kernel_rfl
structure Lib44(m:GvP):Prop where
 idx:dP Tryz.prog (gv1 m) Fn.dp BW
 cut:dP Tryz.prog (gv1 m) Fn.dx BV
def Gt0:Gam:=zj9
theorem yR0(m:GvP)(H:Lib38 m)(_H4:Lib44 m):GamOK Tryz.prog (gv1 m) Gt0:=pX m H
def Gt1:Gam:=Gt0.add Fn.dp (.pure BW)
theorem yR1(m:GvP)(H:Lib38 m)(a:Lib44 m):GamOK Tryz.prog (gv1 m) Gt1:=bD (yR0 m H a) (by kernel_rfl) (a.idx)
def Gt2:Gam:=Gt1.add Fn.dx (.pure BV)
theorem zB9(m:GvP)(H:Lib38 m)(a:Lib44 m):GamOK Tryz.prog (gv1 m) Gt2:=bD (yR1 m H a) (by kernel_rfl) (a.cut)
def Gt3:Gam:=Gt2.add Fn.b5 (.pure HX)
theorem zD0(m:GvP)(H:Lib38 m)(a:Lib44 m):GamOK Tryz.prog (gv1 m) Gt3:=bD (zB9 m H a) (by kernel_rfl) (hJ (by kernel_rfl) (zB9 m H a) Tryz.func486 rfl (ks:=Ks.b5) (rs:=Rs.b5) (by kernel_rfl) (by kernel_rfl) (Ok.b5 m) (xy2 _))
def Gt4:Gam:=Gt3.add Fn.ce (.pure HW)
theorem zE1(m:GvP)(H:Lib38 m)(a:Lib44 m):GamOK Tryz.prog (gv1 m) Gt4:=bD (zD0 m H a) (by kernel_rfl) (hJ (by kernel_rfl) (zD0 m H a) Tryz.func488 rfl (ks:=Ks.ce) (rs:=Rs.ce) (by kernel_rfl) (by kernel_rfl) (Ok.ce m) (xx2 _))
def Gt5:Gam:=Gt4.add Fn.ba (.gen (bO CQ))
theorem zF0(m:GvP)(H:Lib38 m)(a:Lib44 m):GamOK Tryz.prog (gv1 m) Gt5:=bD (zE1 m H a) (by kernel_rfl) (oP (by kernel_rfl) (zE1 m H a) Tryz.func546 rfl (ks:=Ks.ba) (rs:=Rs.ba) (by kernel_rfl) (by kernel_rfl) (Ok.ba m) (xo4 rfl rfl))
def Gt6:Gam:=Gt5.add Fn.bm (.gen (bO (CN Gt5)))
theorem zF2(m:GvP)(H:Lib38 m)(a:Lib44 m):GamOK Tryz.prog (gv1 m) Gt6:=bD (zF0 m H a) (by kernel_rfl) (oP (by kernel_rfl) (zF0 m H a) Tryz.func321 rfl (ks:=Ks.bm) (rs:=Rs.bm) (by kernel_rfl) (by kernel_rfl) (Ok.bm m) (zH5 _))
def Gt7:Gam:=Gt6.add Fn.b8 (.gen (bO (wE Gt5)))
theorem zF3(m:GvP)(H:Lib38 m)(a:Lib44 m):GamOK Tryz.prog (gv1 m) Gt7:=bD (zF2 m H a) (by kernel_rfl) (oP (by kernel_rfl) (zF2 m H a) Tryz.func233 rfl (ks:=Ks.b8) (rs:=Rs.b8) (by kernel_rfl) (by kernel_rfl) (Ok.b8 m) (yc0 _ _ rfl))
def Gt8:Gam:=Gt7.add Fn.bn (.pure CU)
theorem zF4(m:GvP)(H:Lib38 m)(a:Lib44 m):GamOK Tryz.prog (gv1 m) Gt8:=bD (zF3 m H a) (by kernel_rfl) (hJ (by kernel_rfl) (zF3 m H a) Tryz.func487 rfl (ks:=Ks.bn) (rs:=Rs.bn) (by kernel_rfl) (by kernel_rfl) (Ok.bn m) (xz5 (G0:=Gt5) rfl rfl))
def Gt9:Gam:=Gt8.add Fn.ao (.pure HZ)
theorem zF5(m:GvP)(H:Lib38 m)(a:Lib44 m):GamOK Tryz.prog (gv1 m) Gt9:=bD (zF4 m H a) (by kernel_rfl) (hJ (by kernel_rfl) (zF4 m H a) Tryz.func489 rfl (ks:=Ks.ao) (rs:=Rs.ao) (by kernel_rfl) (by kernel_rfl) (Ok.ao m) (xy4 rfl))
def Gt10:Gam:=Gt9.add Fn.aa (.pure NZ)
theorem zz9(m:GvP)(H:Lib38 m)(a:Lib44 m):GamOK Tryz.prog (gv1 m) Gt10:=bD (zF5 m H a) (by kernel_rfl) (hJ (by kernel_rfl) (zF5 m H a) Tryz.func490 rfl (ks:=Ks.aa) (rs:=Rs.aa) (by kernel_rfl) (by kernel_rfl) (Ok.aa m) (xA0 rfl))
def Gt11:Gam:=Gt10.add Fn.ai (.pure HY)
theorem zA0(m:GvP)(H:Lib38 m)(a:Lib44 m):GamOK Tryz.prog (gv1 m) Gt11:=bD (zz9 m H a) (by kernel_rfl) (hJ (by kernel_rfl) (zz9 m H a) Tryz.func424 rfl (ks:=Ks.ai) (rs:=Rs.ai) (by kernel_rfl) (by kernel_rfl) (Ok.ai m) (xy3 rfl rfl rfl rfl rfl))
def Gt12:Gam:=Gt11.add Fn.bz (.pure IC)
theorem zA1(m:GvP)(H:Lib38 m)(a:Lib44 m):GamOK Tryz.prog (gv1 m) Gt12:=bD (zA0 m H a) (by kernel_rfl) (hJ (by kernel_rfl) (zA0 m H a) Tryz.func352 rfl (ks:=Ks.bz) (rs:=Rs.bz) (by kernel_rfl) (by kernel_rfl) (Ok.bz m) (xA1 rfl))
def Gt13:Gam:=Gt12.add Fn.a0 (.pure qU)
theorem zA2(m:GvP)(H:Lib38 m)(a:Lib44 m):GamOK Tryz.prog (gv1 m) Gt13:=bD (zA1 m H a) (by kernel_rfl) (hJ (by kernel_rfl) (zA1 m H a) Tryz.func272 rfl (ks:=Ks.a0) (rs:=Rs.a0) (by kernel_rfl) (by kernel_rfl) (Ok.a0 m) (xw5 rfl))
def Gt14:Gam:=Gt13.add Fn.bf (.pure IB)
theorem zA3(m:GvP)(H:Lib38 m)(a:Lib44 m):GamOK Tryz.prog (gv1 m) Gt14:=bD (zA2 m H a) (by kernel_rfl) (hJ (by kernel_rfl) (zA2 m H a) Tryz.func387 rfl (ks:=Ks.bf) (rs:=Rs.bf) (by kernel_rfl) (by kernel_rfl) (Ok.bf m) (xy9))
def Gt15:Gam:=Gt14.add Fn.bg (.pure IA)
theorem zA4(m:GvP)(H:Lib38 m)(a:Lib44 m):GamOK Tryz.prog (gv1 m) Gt15:=bD (zA3 m H a) (by kernel_rfl) (hJ (by kernel_rfl) (zA3 m H a) Tryz.func386 rfl (ks:=Ks.bg) (rs:=Rs.bg) (by kernel_rfl) (by kernel_rfl) (Ok.bg m) (xy8))
def Gt16:Gam:=Gt15.add Fn.b4 (.pure yY)
theorem zA5(m:GvP)(H:Lib38 m)(a:Lib44 m):GamOK Tryz.prog (gv1 m) Gt16:=bD (zA4 m H a) (by kernel_rfl) (hJ (by kernel_rfl) (zA4 m H a) Tryz.func303 rfl (ks:=Ks.b4) (rs:=Rs.b4) (by kernel_rfl) (by kernel_rfl) (Ok.b4 m) (xz3 rfl rfl))
def Gt17:Gam:=Gt16.add Fn.b0 (.pure wF)
theorem zA6(m:GvP)(H:Lib38 m)(a:Lib44 m):GamOK Tryz.prog (gv1 m) Gt17:=bD (zA5 m H a) (by kernel_rfl) (hJ (by kernel_rfl) (zA5 m H a) Tryz.func307 rfl (ks:=Ks.b0) (rs:=Rs.b0) (by kernel_rfl) (by kernel_rfl) (Ok.b0 m) (xF9))
def Gt18:Gam:=Gt17.add Fn.a1 (.pure sE)
theorem zA7(m:GvP)(H:Lib38 m)(a:Lib44 m):GamOK Tryz.prog (gv1 m) Gt18:=bD (zA6 m H a) (by kernel_rfl) (hJ (by kernel_rfl) (zA6 m H a) Tryz.func310 rfl (ks:=Ks.a1) (rs:=Rs.a1) (by kernel_rfl) (by kernel_rfl) (Ok.a1 m) (yr7 rfl))
def Gt19:Gam:=Gt18.add Fn.bc (.pure yS)
theorem zA8(m:GvP)(H:Lib38 m)(a:Lib44 m):GamOK Tryz.prog (gv1 m) Gt19:=bD (zA7 m H a) (by kernel_rfl) (hJ (by kernel_rfl) (zA7 m H a) Tryz.func302 rfl (ks:=Ks.bc) (rs:=Rs.bc) (by kernel_rfl) (by kernel_rfl) (Ok.bc m) (xa6 rfl rfl))
def Gt20:Gam:=Gt19.add Fn.ak (.pure HP)
theorem zA9(m:GvP)(H:Lib38 m)(a:Lib44 m):GamOK Tryz.prog (gv1 m) Gt20:=bD (zA8 m H a) (by kernel_rfl) (hJ (by kernel_rfl) (zA8 m H a) Tryz.func218 rfl (ks:=Ks.ak) (rs:=Rs.ak) (by kernel_rfl) (by kernel_rfl) (Ok.ak m) (xj2 rfl rfl rfl))
def Gt21:Gam:=Gt20.add Fn.bi (.pure HM)
theorem zB0(m:GvP)(H:Lib38 m)(a:Lib44 m):GamOK Tryz.prog (gv1 m) Gt21:=bD (zA9 m H a) (by kernel_rfl) (hJ (by kernel_rfl) (zA9 m H a) Tryz.func220 rfl (ks:=Ks.bi) (rs:=Rs.bi) (by kernel_rfl) (by kernel_rfl) (Ok.bi m) (xb1 rfl))
def Gt22:Gam:=Gt21.add Fn.a5 (.gen (bO HH))
theorem zB1(m:GvP)(H:Lib38 m)(a:Lib44 m):GamOK Tryz.prog (gv1 m) Gt22:=bD (zB0 m H a) (by kernel_rfl) (oP (by kernel_rfl) (zB0 m H a) Tryz.func394 rfl (ks:=Ks.a5) (rs:=Rs.a5) (by kernel_rfl) (by kernel_rfl) (Ok.a5 m) (yp3))
def Gt23:Gam:=Gt22.add Fn.b1 (.gen (bO CW))
theorem zB2(m:GvP)(H:Lib38 m)(a:Lib44 m):GamOK Tryz.prog (gv1 m) Gt23:=bD (zB1 m H a) (by kernel_rfl) (oP (by kernel_rfl) (zB1 m H a) Tryz.func309 rfl (ks:=Ks.b1) (rs:=Rs.b1) (by kernel_rfl) (by kernel_rfl) (Ok.b1 m) (xG0))
def Gt24:Gam:=Gt23.add Fn.bh (.gen (bO CL))
theorem zB3(m:GvP)(H:Lib38 m)(a:Lib44 m):GamOK Tryz.prog (gv1 m) Gt24:=bD (zB2 m H a) (by kernel_rfl) (oP (by kernel_rfl) (zB2 m H a) Tryz.func311 rfl (ks:=Ks.bh) (rs:=Rs.bh) (by kernel_rfl) (by kernel_rfl) (Ok.bh m) (yI9))
def Gt25:Gam:=Gt24.add Fn.a4 (.gen (bO (nY true 5 Gt24)))
theorem zB4(m:GvP)(H:Lib38 m)(a:Lib44 m):GamOK Tryz.prog (gv1 m) Gt25:=bD (zB3 m H a) (by kernel_rfl) (oP (by kernel_rfl) (zB3 m H a) Tryz.func393 rfl (ks:=Ks.a4) (rs:=Rs.a4) (by kernel_rfl) (by kernel_rfl) (Ok.a4 m) (yS8 _))
def Gt26:Gam:=Gt25.add Fn.bx (.gen (bO (nX true 5 Gt24)))
theorem zB5(m:GvP)(H:Lib38 m)(a:Lib44 m):GamOK Tryz.prog (gv1 m) Gt26:=bD (zB4 m H a) (by kernel_rfl) (oP (by kernel_rfl) (zB4 m H a) Tryz.func308 rfl (ks:=Ks.bx) (rs:=Rs.bx) (by kernel_rfl) (by kernel_rfl) (Ok.bx m) (yz5 _ _ rfl))
def Gt27:Gam:=Gt26.add Fn.b9 (.pure HD)
theorem zB6(m:GvP)(H:Lib38 m)(a:Lib44 m):GamOK Tryz.prog (gv1 m) Gt27:=bD (zB5 m H a) (by kernel_rfl) (hJ (by kernel_rfl) (zB5 m H a) Tryz.func305 rfl (ks:=Ks.b9) (rs:=Rs.b9) (by kernel_rfl) (by kernel_rfl) (Ok.b9 m) (yh3 (G0:=Gt24) rfl rfl))
def Gt28:Gam:=Gt27.add Fn.a6 (.pure HJ)
theorem zB7(m:GvP)(H:Lib38 m)(a:Lib44 m):GamOK Tryz.prog (gv1 m) Gt28:=bD (zB6 m H a) (by kernel_rfl) (hJ (by kernel_rfl) (zB6 m H a) Tryz.func221 rfl (ks:=Ks.a6) (rs:=Rs.a6) (by kernel_rfl) (by kernel_rfl) (Ok.a6 m) (yJ0 (G0:=Gt24) rfl rfl))
def Gt29:Gam:=Gt28.add Fn.bj (.pure HK)
theorem zB8(m:GvP)(H:Lib38 m)(a:Lib44 m):GamOK Tryz.prog (gv1 m) Gt29:=bD (zB7 m H a) (by kernel_rfl) (hJ (by kernel_rfl) (zB7 m H a) Tryz.func395 rfl (ks:=Ks.bj) (rs:=Rs.bj) (by kernel_rfl) (by kernel_rfl) (Ok.bj m) (yS7))
def Gt30:Gam:=Gt29.add Fn.ck (.pure HI)
theorem zC0(m:GvP)(H:Lib38 m)(a:Lib44 m):GamOK Tryz.prog (gv1 m) Gt30:=bD (zB8 m H a) (by kernel_rfl) (hJ (by kernel_rfl) (zB8 m H a) Tryz.func306 rfl (ks:=Ks.ck) (rs:=Rs.ck) (by kernel_rfl) (by kernel_rfl) (Ok.ck m) (yz2 rfl))
def Gt31:Gam:=Gt30.add Fn.ah (.gen uI)
theorem zC1(m:GvP)(H:Lib38 m)(a:Lib44 m):GamOK Tryz.prog (gv1 m) Gt31:=bD (zC0 m H a) (by kernel_rfl) (mB (by kernel_rfl) (zC0 m H a) Tryz.func304 rfl (ks:=Ks.ah) (rs:=Rs.ah) (by kernel_rfl) (by kernel_rfl) (Ok.ah m) (xw8 rfl rfl))
def Gt32:Gam:=Gt31.add Fn.ae (.pure ID)
theorem zC2(m:GvP)(H:Lib38 m)(a:Lib44 m):GamOK Tryz.prog (gv1 m) Gt32:=bD (zC1 m H a) (by kernel_rfl) (hJ (by kernel_rfl) (zC1 m H a) Tryz.func219 rfl (ks:=Ks.ae) (rs:=Rs.ae) (by kernel_rfl) (by kernel_rfl) (Ok.ae m) (xG1 (G0:=Gt24) rfl rfl rfl rfl rfl rfl))
def Gt33:Gam:=Gt32.add Fn.ab (.pure BR)
theorem zC3(m:GvP)(H:Lib38 m)(a:Lib44 m):GamOK Tryz.prog (gv1 m) Gt33:=bD (zC2 m H a) (by kernel_rfl) (hJ (by kernel_rfl) (zC2 m H a) Tryz.func151 rfl (ks:=Ks.ab) (rs:=Rs.ab) (by kernel_rfl) (by kernel_rfl) (Ok.ab m) (yh5 rfl rfl rfl rfl))
def Gt34:Gam:=Gt33.add Fn.aq (.gen (bO uE))
theorem zC4(m:GvP)(H:Lib38 m)(a:Lib44 m):GamOK Tryz.prog (gv1 m) Gt34:=bD (zC3 m H a) (by kernel_rfl) (oP (by kernel_rfl) (zC3 m H a) Tryz.func214 rfl (ks:=Ks.aq) (rs:=Rs.aq) (by kernel_rfl) (by kernel_rfl) (Ok.aq m) (yz9))
def Gt35:Gam:=Gt34.add Fn.cd (.gen yJ)
theorem zC5(m:GvP)(H:Lib38 m)(a:Lib44 m):GamOK Tryz.prog (gv1 m) Gt35:=bD (zC4 m H a) (by kernel_rfl) (mB (by kernel_rfl) (zC4 m H a) Tryz.func215 rfl (ks:=Ks.cd) (rs:=Rs.cd) (by kernel_rfl) (by kernel_rfl) (Ok.cd m) (yJ2))
def Gt36:Gam:=Gt35.add Fn.ac (.gen lW)
theorem zC6(m:GvP)(H:Lib38 m)(a:Lib44 m):GamOK Tryz.prog (gv1 m) Gt36:=bD (zC5 m H a) (by kernel_rfl) (mB (by kernel_rfl) (zC5 m H a) Tryz.func138 rfl (ks:=Ks.ac) (rs:=Rs.ac) (by kernel_rfl) (by kernel_rfl) (Ok.ac m) (xl6 rfl rfl))
def Gt37:Gam:=Gt36.add Fn.aj (.gen CP)
theorem zC7(m:GvP)(H:Lib38 m)(a:Lib44 m):GamOK Tryz.prog (gv1 m) Gt37:=bD (zC6 m H a) (by kernel_rfl) (mB (by kernel_rfl) (zC6 m H a) Tryz.func140 rfl (ks:=Ks.aj) (rs:=Rs.aj) (by kernel_rfl) (by kernel_rfl) (Ok.aj m) (xl8 rfl rfl rfl))
def Gt38:Gam:=Gt37.add Fn.be (.gen (bO BT))
theorem zC8(m:GvP)(H:Lib38 m)(a:Lib44 m):GamOK Tryz.prog (gv1 m) Gt38:=bD (zC7 m H a) (by kernel_rfl) (oP (by kernel_rfl) (zC7 m H a) Tryz.func150 rfl (ks:=Ks.be) (rs:=Rs.be) (by kernel_rfl) (by kernel_rfl) (Ok.be m) (yh8))
def Gt39:Gam:=Gt38.add Fn.ci (.gen NT)
theorem zC9(m:GvP)(H:Lib38 m)(a:Lib44 m):GamOK Tryz.prog (gv1 m) Gt39:=bD (zC8 m H a) (by kernel_rfl) (mB (by kernel_rfl) (zC8 m H a) Tryz.func136 rfl (ks:=Ks.ci) (rs:=Rs.ci) (by kernel_rfl) (by kernel_rfl) (Ok.ci m) (ym9))
def Gt40:Gam:=Gt39.add Fn.an (.gen (bO kY))
theorem zD1(m:GvP)(H:Lib38 m)(a:Lib44 m):GamOK Tryz.prog (gv1 m) Gt40:=bD (zC9 m H a) (by kernel_rfl) (oP (by kernel_rfl) (zC9 m H a) Tryz.func217 rfl (ks:=Ks.an) (rs:=Rs.an) (by kernel_rfl) (by kernel_rfl) (Ok.an m) (xl4))
def Gt41:Gam:=Gt40.add Fn.af (.gen nZ)
theorem zD2(m:GvP)(H:Lib38 m)(a:Lib44 m):GamOK Tryz.prog (gv1 m) Gt41:=bD (zD1 m H a) (by kernel_rfl) (mB (by kernel_rfl) (zD1 m H a) Tryz.func137 rfl (ks:=Ks.af) (rs:=Rs.af) (by kernel_rfl) (by kernel_rfl) (Ok.af m) (yA5 rfl))
def Gt42:Gam:=Gt41.add Fn.ag (.gen qS)
theorem zD3(m:GvP)(H:Lib38 m)(a:Lib44 m):GamOK Tryz.prog (gv1 m) Gt42:=bD (zD2 m H a) (by kernel_rfl) (mB (by kernel_rfl) (zD2 m H a) Tryz.func139 rfl (ks:=Ks.ag) (rs:=Rs.ag) (by kernel_rfl) (by kernel_rfl) (Ok.ag m) (yA6 rfl))
def Gt43:Gam:=Gt42.add Fn.bo (.gen CG)
theorem zD4(m:GvP)(H:Lib38 m)(a:Lib44 m):GamOK Tryz.prog (gv1 m) Gt43:=bD (zD3 m H a) (by kernel_rfl) (mB (by kernel_rfl) (zD3 m H a) Tryz.func142 rfl (ks:=Ks.bo) (rs:=Rs.bo) (by kernel_rfl) (by kernel_rfl) (Ok.bo m) (yA7 rfl rfl))
def Gt44:Gam:=Gt43.add Fn.bp (.gen CH)
theorem zD5(m:GvP)(H:Lib38 m)(a:Lib44 m):GamOK Tryz.prog (gv1 m) Gt44:=bD (zD4 m H a) (by kernel_rfl) (mB (by kernel_rfl) (zD4 m H a) Tryz.func145 rfl (ks:=Ks.bp) (rs:=Rs.bp) (by kernel_rfl) (by kernel_rfl) (Ok.bp m) (yA8 rfl rfl))
def Gt45:Gam:=Gt44.add Fn.bq (.gen CI)
theorem zD6(m:GvP)(H:Lib38 m)(a:Lib44 m):GamOK Tryz.prog (gv1 m) Gt45:=bD (zD5 m H a) (by kernel_rfl) (mB (by kernel_rfl) (zD5 m H a) Tryz.func147 rfl (ks:=Ks.bq) (rs:=Rs.bq) (by kernel_rfl) (by kernel_rfl) (Ok.bq m) (yA9 rfl rfl))
def Gt46:Gam:=Gt45.add Fn.br (.gen CJ)
theorem zD7(m:GvP)(H:Lib38 m)(a:Lib44 m):GamOK Tryz.prog (gv1 m) Gt46:=bD (zD6 m H a) (by kernel_rfl) (mB (by kernel_rfl) (zD6 m H a) Tryz.func149 rfl (ks:=Ks.br) (rs:=Rs.br) (by kernel_rfl) (by kernel_rfl) (Ok.br m) (yB0 rfl rfl))
def Gt47:Gam:=Gt46.add Fn.aw (.gen yN)
theorem zD8(m:GvP)(H:Lib38 m)(a:Lib44 m):GamOK Tryz.prog (gv1 m) Gt47:=bD (zD7 m H a) (by kernel_rfl) (tB (by kernel_rfl) (zD7 m H a) Tryz.func141 rfl (ks:=Ks.aw) (rs:=Rs.aw) (by kernel_rfl) (by kernel_rfl) (Ok.aw m) (yY7 rfl rfl rfl))
def Gt48:Gam:=Gt47.add Fn.ar (.gen yM)
theorem zD9(m:GvP)(H:Lib38 m)(a:Lib44 m):GamOK Tryz.prog (gv1 m) Gt48:=bD (zD8 m H a) (by kernel_rfl) (tB (by kernel_rfl) (zD8 m H a) Tryz.func143 rfl (ks:=Ks.ar) (rs:=Rs.ar) (by kernel_rfl) (by kernel_rfl) (Ok.ar m) (yY6 rfl rfl rfl))
def Gt49:Gam:=Gt48.add Fn.ax (.gen yO)
theorem zE0(m:GvP)(H:Lib38 m)(a:Lib44 m):GamOK Tryz.prog (gv1 m) Gt49:=bD (zD9 m H a) (by kernel_rfl) (tB (by kernel_rfl) (zD9 m H a) Tryz.func144 rfl (ks:=Ks.ax) (rs:=Rs.ax) (by kernel_rfl) (by kernel_rfl) (Ok.ax m) (yY8 rfl rfl rfl))
def Gt50:Gam:=Gt49.add Fn.av (.gen yP)
theorem zE2(m:GvP)(H:Lib38 m)(a:Lib44 m):GamOK Tryz.prog (gv1 m) Gt50:=bD (zE0 m H a) (by kernel_rfl) (tB (by kernel_rfl) (zE0 m H a) Tryz.func146 rfl (ks:=Ks.av) (rs:=Rs.av) (by kernel_rfl) (by kernel_rfl) (Ok.av m) (yY9 rfl rfl rfl))
def Gt51:Gam:=Gt50.add Fn.ay (.gen yQ)
theorem zE3(m:GvP)(H:Lib38 m)(a:Lib44 m):GamOK Tryz.prog (gv1 m) Gt51:=bD (zE2 m H a) (by kernel_rfl) (tB (by kernel_rfl) (zE2 m H a) Tryz.func148 rfl (ks:=Ks.ay) (rs:=Rs.ay) (by kernel_rfl) (by kernel_rfl) (Ok.ay m) (yZ0 rfl rfl rfl))
def Gt52:Gam:=Gt51.add Fn.bb (.pure sC)
theorem yR2(m:GvP)(H:Lib38 m)(a:Lib44 m):GamOK Tryz.prog (gv1 m) Gt52:=bD (zE3 m H a) (by kernel_rfl) (hJ (by kernel_rfl) (zE3 m H a) Tryz.func82 rfl (ks:=Ks.bb) (rs:=Rs.bb) (by kernel_rfl) (by kernel_rfl) (Ok.bb m) (yi9 rfl rfl rfl rfl rfl rfl rfl rfl rfl rfl))
def Gt53:Gam:=Gt52.add Fn.dd (.pure uB)
theorem zE4(m:GvP)(H:Lib38 m)(a:Lib44 m):GamOK Tryz.prog (gv1 m) Gt53:=bD (yR2 m H a) (by kernel_rfl) (H.count)
def Gt54:Gam:=Gt53.add Fn.bv (.gen HT)
theorem zE5(m:GvP)(H:Lib38 m)(a:Lib44 m):GamOK Tryz.prog (gv1 m) Gt54:=bD (zE4 m H a) (by kernel_rfl) (mB (by kernel_rfl) (zE4 m H a) Tryz.func152 rfl (ks:=Ks.bv) (rs:=Rs.bv) (by kernel_rfl) (by kernel_rfl) (Ok.bv m) (xs0 _))
def Gt55:Gam:=Gt54.add Fn.cg (.gen yI)
theorem zE6(m:GvP)(H:Lib38 m)(a:Lib44 m):GamOK Tryz.prog (gv1 m) Gt55:=bD (zE5 m H a) (by kernel_rfl) (mB (by kernel_rfl) (zE5 m H a) Tryz.func83 rfl (ks:=Ks.cg) (rs:=Rs.cg) (by kernel_rfl) (by kernel_rfl) (Ok.cg m) (yp2 _))
def Gt56:Gam:=Gt55.add Fn.a8 (.gen (oC sC))
theorem zE7(m:GvP)(H:Lib38 m)(a:Lib44 m):GamOK Tryz.prog (gv1 m) Gt56:=bD (zE6 m H a) (by kernel_rfl) (uY (by kernel_rfl) (zE6 m H a) Tryz.func84 rfl (ks:=Ks.a8) (rs:=Rs.a8) (by kernel_rfl) (by kernel_rfl) (Ok.a8 m) (xr3 _ sC rfl rfl rfl rfl))
def Gt57:Gam:=Gt56.add Fn.b7 (.gen BZ)
theorem zE8(m:GvP)(H:Lib38 m)(a:Lib44 m):GamOK Tryz.prog (gv1 m) Gt57:=bD (zE7 m H a) (by kernel_rfl) (tB (by kernel_rfl) (zE7 m H a) Tryz.func291 rfl (ks:=Ks.b7) (rs:=Rs.b7) (by kernel_rfl) (by kernel_rfl) (Ok.b7 m) (yn8 _))
def Gt58:Gam:=Gt57.add Fn.bl (.gen (CF (oC sC)))
theorem yR3(m:GvP)(H:Lib38 m)(a:Lib44 m):GamOK Tryz.prog (gv1 m) Gt58:=bD (zE8 m H a) (by kernel_rfl) (tB (by kernel_rfl) (zE8 m H a) Tryz.func207 rfl (ks:=Ks.bl) (rs:=Rs.bl) (by kernel_rfl) (by kernel_rfl) (Ok.bl m) (yA1 _ (oC sC) rfl rfl))
def Gt59:Gam:=Gt58.add Fn.cr (.gen CR)
theorem zE9(m:GvP)(H:Lib38 m)(a:Lib44 m):GamOK Tryz.prog (gv1 m) Gt59:=bD (yR3 m H a) (by kernel_rfl) (xt4 (gv1 m))
def Gt60:Gam:=Gt59.add Fn.a2 (.pure nD)
theorem zF1(m:GvP)(H:Lib38 m)(a:Lib44 m):GamOK Tryz.prog (gv1 m) Gt60:=bD (zE9 m H a) (by kernel_rfl) (hJ (by kernel_rfl) (zE9 m H a) Tryz.func159 rfl (ks:=Ks.a2) (rs:=Rs.a2) (by kernel_rfl) (by kernel_rfl) (Ok.a2 m) (yX9 rfl rfl rfl))
def Gt61:Gam:=Gt60.add Fn.ad (.gen (oB nD))
theorem yR4(m:GvP)(H:Lib38 m)(a:Lib44 m):GamOK Tryz.prog (gv1 m) Gt61:=bD (zF1 m H a) (by kernel_rfl) (uY (by kernel_rfl) (zF1 m H a) Tryz.func86 rfl (ks:=Ks.ad) (rs:=Rs.ad) (by kernel_rfl) (by kernel_rfl) (Ok.ad m) (xd0 _ nD rfl))
end
end Go.Proofs.YtpefhfiehfkocaaGreatDoor
