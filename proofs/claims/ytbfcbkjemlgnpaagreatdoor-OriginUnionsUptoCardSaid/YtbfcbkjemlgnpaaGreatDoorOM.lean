/- digest.Sum at the arguments that awake of law 19 hands it. What is run for awake of law 19: the table of functions,the contracts they stand on (definitions alone). recipe_Parse at the arguments that  -/
import Derived.Test.YtbfcbkjemlgnpaaGreatDoorRmJ
import Derived.Test.YtbfcbkjemlgnpaaGreatDoorRmH
import Derived.KernelRfl
import Derived.Test.YtbfcbkjemlgnpaaGreatDoorRmK
import Derived.Test.YtbfcbkjemlgnpaaGreatDoorRmG
import Derived.Test.YtbfcbkjemlgnpaaGreatDoorRecOk
import Derived.Test.YtbfcbkjemlgnpaaGreatDoorOI
import Derived.Test.YtbfcbkjemlgnpaaGreatDoorOC
namespace Go.Proofs.YtbfcbkjemlgnpaaGreatDoor
open Go.RowKit
def K19Sum0A:List AV:=[.str [97,10,98]]
def K19Sum0R:AV:=.str [157,177,176,131,124,254,131,133,225,103,202,224,211,134,8,189,28,36,119,235,136,7,4,67,201,42,173,81,164,133,154,150]
theorem K19Sum0_run:F_dSum K19Sum0A=some K19Sum0R:=by kernel_rfl
def K19Sum1A:List AV:=[.str [107,101,101,112,32,49,10,100,114,111,112,32,49,10,97,100,100,32,49,10,99]]
def K19Sum1R:AV:=.str [128,54,83,127,208,132,0,59,30,41,151,219,110,142,6,16,87,137,251,145,190,222,158,200,0,237,134,74,161,15,122,186]
theorem K19Sum1_run:F_dSum K19Sum1A=some K19Sum1R:=by kernel_rfl
def K19Sum2A:List AV:=[.str [97,10,99]]
def K19Sum2R:AV:=.str [138,234,212,168,135,5,46,173,91,83,69,177,158,236,182,170,255,39,47,125,44,142,22,50,162,2,161,235,96,7,218,136]
theorem K19Sum2_run:F_dSum K19Sum2A=some K19Sum2R:=by kernel_rfl
theorem tab_mono{P:Program}{gv:Gv}{f:FuncId}{F:List AV→Option AV}(h:PureOK P gv f F){args0:List AV}{r0:AV}(h0:F args0=some r0):PureOK P gv f (F_tab args0 r0):=
 pure_mono h fun args r hr=>by
  unfold F_tab at hr;split at hr
  ·rename_i he
   injection hr with hr; subst hr
   rw [avEqL_eq _ _ he]; exact h0
  ·cases hr
def F_19Sum:List AV→Option AV:=F_or (F_tab K19Sum0A K19Sum0R) (F_or (F_tab K19Sum1A K19Sum1R) (F_tab K19Sum2A K19Sum2R))
theorem K19Sum_ok{P:Program}{gv:Gv}{f:FuncId}(h:PureOK P gv f F_dSum):PureOK P gv f F_19Sum:=or_pure (tab_mono h K19Sum0_run) (or_pure (tab_mono h K19Sum1_run) (tab_mono h K19Sum2_run))
end Go.Proofs.YtbfcbkjemlgnpaaGreatDoor
namespace Go.Proofs.YtbfcbkjemlgnpaaGreatDoor
open Go.RowKit
def tab19:List (Nat×FE):=[
 (211,⟨[0,2],[],[],1⟩),
 (403,⟨[0,1,2,6,7,8,10,11],[],[[7,8,11]],2⟩),
 (131,⟨[0,2],[],[],1⟩),
 (209,⟨[0,1,4,5,7,8],[],[[5]],2⟩),
 (176,⟨[0,1,2,3,4,5,6,7,8,9,10,27,28,29],[],[[4,5]],1⟩),
 (69,⟨[0,2,3],[],[],1⟩),
 (159,⟨[0,1,4,5,6,7,8,9,10,12,13,14,41,42,43,103,104,105],[],[[12],[13,14]],1⟩),
 (248,⟨[0,1,3,4,5,6,7,8,25,26,27,32],[],[[7,8,32]],1⟩),
 (91,⟨[0,2,3,4,5,6,7,8,9,10,12,13,14,15,16,76],[1000155],[[9,10,12,13,14,76]],1⟩),
 (242,⟨[0,2,3,5,6,9,10,11],[4000000,4000002,8,5000008,5000020],[[5,6]],5⟩),
 (177,⟨[0,1,2,3,4,6,8,9,10,15],[],[[6,15]],1⟩),
 (277,⟨[0,1,2,3,4,5,8,9,26,27,28,33],[],[[8,9,33]],1⟩),
 (275,⟨[0,1,2],[],[],1⟩),
 (148,⟨[0,1,3,4,5,6,7,8,9,11,13,64,108,109,110],[],[[9],[11,13]],2⟩),
 (335,⟨[0,1,2,3,4],[],[],1⟩),
 (308,⟨[0,1,4],[],[],1⟩),
 (276,⟨[0,2,3,4,6,17,18,19],[],[[6]],1⟩),
 (210,⟨[0,1,4],[],[],2⟩),
 (334,⟨[0,1,2,6,7,8,9,15,16,17],[],[[7,8,9]],2⟩),
 (129,⟨[0,1,4],[],[],2⟩),
 (130,⟨[0,2],[],[],1⟩),
 (303,⟨[0,1,4],[],[],2⟩),
 (152,⟨[0,2,3,5,6,8,9,10,11,25,26,27],[],[[5],[8]],1⟩),
 (78,⟨[0,2,3,4,5,6,7,8,9,10,20,21],[],[[8,9,10]],1⟩),
 (82,⟨[0,1,4,5,6,7],[],[],1⟩),
 (162,⟨[0,1,4,5],[],[],1⟩),
 (249,⟨[0,1,4,5],[],[],1⟩),
 (202,⟨[0,1,4,5,7,8],[],[[5]],2⟩),
 (224,⟨[0,1,4,5,6,8,9,10,11,12,13],[],[[8,9,10]],6⟩),
 (86,⟨[0,1,2,3,4,5,9,10,11,12],[],[[9]],2⟩),
 (336,⟨[0,1,4,5,7,8],[],[[5]],2⟩),
 (76,⟨[0,1,2,3,4,5,6,7,8],[1000151],[],4⟩),
 (241,⟨[0,2,3,4,5,6,7],[],[],1⟩),
 (337,⟨[0,2,3,4],[],[],1⟩),
 (147,⟨[0,2,3,5,6,7],[],[[3,5,6,7]],2⟩),
 (151,⟨[0,1,4,5,7,8,9,10,11],[],[[7,8]],6⟩),
 (161,⟨[0,2,3,4],[],[],1⟩),
 (50,⟨[0,1,2,3,4,5,6,8,10,11,12,13,14,15,50,51,52,106,107],[1000085,1000086,1000093],[[11,12,13],[15]],2⟩),
 (92,⟨[0,1,2,4,5,7,8,9,11,12,13,15,40,41,42,49,50,53],[],[[15,49,50,53],[53]],1⟩),
 (221,⟨[0,2,3,4,8,9,10],[],[[3,4]],1⟩),
 (332,⟨[0,2],[],[],1⟩),
 (377,⟨[0,1],[],[],2⟩),
 (75,⟨[0,2,3,4,5,7,9,18,19,20,39,40,41],[7000028,1000145],[[7,9,39,40,41],[9]],2⟩),
 (247,⟨[0,1,2,3],[],[],2⟩),
 (188,⟨[0,1,2,6,7,8,9,10,11],[],[[11]],2⟩),
 (29,⟨[0,1,4,5,7,8,10,11,42,43,44,58,59],[],[[7,8,10,58,59],[10]],2⟩),
 (158,⟨[0,2,3],[],[],1⟩),
 (81,⟨[0,1,3,4,6,7,9,10,11],[],[[6,7]],2⟩),
 (333,⟨[0,1,4,5,7,8],[],[[5]],2⟩),
 (375,⟨[0,2],[],[],1⟩),
 (28,⟨[0,1,3,4,5,6,7,8,9,10,12,14,17,39,64,65,66],[1000026],[[17]],2⟩),
 (93,⟨[0,1,2,3,6],[1000028],[],2⟩),
 (22,⟨[0,2,3,4,5,6,8,10,27,28,29,53,54,55],[1000044,1000045],[[8],[10]],2⟩),
 (64,⟨[0,2,3,4,6,7,11,12,13],[1000123],[[6,7]],1⟩),
 (63,⟨[0,1,4,5,6],[],[],1⟩),
 (123,⟨[0,2,3,5,6,9,10,11],[],[[5,6]],2⟩),
 (203,⟨[0,1,2,3],[],[],2⟩),
 (44,⟨[0,1,3,4,5,6,8,11,12],[],[],6⟩),
 (144,⟨[0,2,3,4,5,7,11,12,13],[],[[4,5,7]],1⟩),
 (94,⟨[0,2,3,5,6,8,9,10,11,25,26,27],[],[[5],[8]],1⟩),
 (330,⟨[0,2],[],[],1⟩),
 (57,⟨[0,1,2,3,6,7,8],[],[[6]],2⟩),
 (43,⟨[0,2,3,4,5,6,7],[],[[6,7]],1⟩),
 (27,⟨[0,1,4,5,12,13],[],[[5]],1⟩),
 (77,⟨[0,2,3,5,20,21,22],[1000153,1000155],[[5]],7⟩),
 (102,⟨[0,1,4,5,6,7,8],[],[],2⟩),
 (58,⟨[0,2,3,4,5,6,7],[],[],1⟩),
 (318,⟨[0,1,3,4,5,7,8],[],[[5]],1⟩),
 (45,⟨[0,1,3,4,6,15],[],[],2⟩),
 (79,⟨[0,1,4,5,7,8],[],[[5]],2⟩),
 (67,⟨[0,1,2],[],[],1⟩),
 (243,⟨[0,1,4],[],[],2⟩),
 (246,⟨[0,1,4],[],[],2⟩),
 (236,⟨[0,1,3,4],[],[],1⟩),
 (223,⟨[0,1,2,3],[],[],2⟩),
 (26,⟨[0,1,4],[],[],2⟩),
 (122,⟨[0,1,3,4],[],[],1⟩),
 (149,⟨[0,1,2,6],[],[],2⟩),
 (244,⟨[0,1,3],[],[],2⟩),
 (245,⟨[0,1,4],[],[],1⟩),
 (85,⟨[0,1,2,4],[1000028],[],2⟩),
 (150,⟨[0,2],[],[],1⟩),
 (189,⟨[0,1],[],[],2⟩),
 (16,⟨[0,1,4,5,12,13],[],[[5]],1⟩),
 (80,⟨[0,1,2,3],[],[],2⟩),
 (222,⟨[0,1,4],[],[],2⟩),
 (306,⟨[0,1,2,3],[],[],2⟩),
 (68,⟨[0,1,2,3,4],[],[],1⟩),
 (234,⟨[0,1,4,5],[],[],2⟩),
 (232,⟨[0,1,4,5,6,7],[],[],2⟩),
 (5,⟨[0,1,2,3,4],[1000024,1000026,1000028,1000029],[],1⟩),
 (25,⟨[0,1,4],[],[],1⟩),
 (218,⟨[0,2],[],[],1⟩),
 (374,⟨[0,2],[],[],1⟩),
 (307,⟨[0,1,4],[],[],1⟩),
 (314,⟨[0,1,2,4,5,7,8],[],[],1⟩),
 (329,⟨[0,2],[],[],1⟩),
 (233,⟨[0,1,4,5],[],[],2⟩),
 (143,⟨[0,2],[],[],1⟩),
 (240,⟨[0,1,2,3,8,9,10,11,12,13,14,15,16,17,18],[],[[10,11,12,13,14,15,16,17,18]],1⟩),
 (98,⟨[0,2],[],[],2⟩),
 (156,⟨[0,2],[],[],1⟩),
 (23,⟨[0],[],[],1⟩),
 (101,⟨[0,1],[],[],2⟩),
 (219,⟨[0,1,4],[],[],2⟩),
 (305,⟨[0,1,4,5,7,8],[],[[5]],2⟩),
 (320,⟨[0,1,2,6,7],[],[[7],[]],1⟩),
 (73,⟨[0,2],[],[],1⟩),
 (146,⟨[0,1],[],[],2⟩),
 (412,⟨[0,1,2,4,5,6,8,9,10,11,12,14,15,17,19,60,61,62,67],[],[[17,67]],1⟩)]
def fe19(f:FuncId):Option FE:=(tab19.find? fun q=>q.1 == f).map (·.2)
noncomputable def Bs0:Gam:=Gam.none
noncomputable def Bs1:Gam:=Bs0.add 128 (.pure F_Split)
noncomputable def Bs2:Gam:=Bs1.add 225 (.pure F_HasPrefix)
noncomputable def Bs3:Gam:=Bs2.add 160 (.pure F_Contains)
noncomputable def Bs4:Gam:=Bs3.add 59 (.pure F_Count1)
noncomputable def Bs5:Gam:=Bs4.add 174 (.pure F_Cut)
noncomputable def Bs6:Gam:=Bs5.add 379 (.pure F_Itoa)
noncomputable def Bs7:Gam:=Bs6.add 175 (.pure (F_Atoi 505))
noncomputable def Bs8:Gam:=Bs7.add 376 (.pure F_JoinS)
noncomputable def Bs9:Gam:=Bs8.add 155 (.gen (F_CloneG 1 16))
noncomputable def Bs10:Gam:=Bs9.add 157 (.gen (F_CloneG 2 32))
noncomputable def Bs11:Gam:=Bs10.add 145 (.gen (F_CloneG 2 32))
noncomputable def Bs12:Gam:=Bs11.add 237 (.gen (F_GrowG 1))
noncomputable def Bs13:Gam:=Bs12.add 178 (.gen (F_GrowG 4))
noncomputable def Bs14:Gam:=Bs13.add 260 (.pure F_IndexS)
noncomputable def Bs15:Gam:=Bs14.add 166 (.pure F_ContainsS)
noncomputable def Bs16:Gam:=Bs15.add 226 (.gen (lookF F_vis))
noncomputable def Bs17:Gam:=Bs16.add 153 (.gen (F_all 226 154))
noncomputable def Bs18:Gam:=Bs17.add 52 (.gen F_sortFl)
noncomputable def Bs19:Gam:=Bs18.add 204 (.gen (F_SortSp 205))
noncomputable def Bs20:Gam:=Bs19.add 235 (.pure F_19Sum)
noncomputable def B19a:Gam:=Bs20
noncomputable def G19f(m:GvP):Gam:=genS Tryz.prog (gv1 m) fe19 2000 B19a 40
noncomputable def B19(m:GvP):Gam:=B19a.add 24 (.gen (F_flows (G19f m)))
end Go.Proofs.YtbfcbkjemlgnpaaGreatDoor
namespace Go.Proofs.YtbfcbkjemlgnpaaGreatDoor
open Go.RowKit
def K19Parse0A:List AV:=[.str [112,97,116,99,104,32,120,32,119,105,116,104,32,112,32,116,111,32,121,10,105,110,115,116,97,108,108,32,121,32,97,115,32,122]]
def K19Parse0R:AV:=.tup [.sl [[.int .i64 0,.int .i64 6,.sl [[.str [120]],[.str [112]]],.sl [],.sl [],.str [121]],[.int .i64 1,.int .i64 8,.sl [[.str [121]]],.sl [],.sl [],.str [122]]],.int .i64 (-1),.int .i64 0]
theorem K19Parse0_run(m:GvP):at1 (genS Tryz.prog (gv1 m) fe19 2000 (B19 m) 40) Fn.q111 K19Parse0A=some K19Parse0R:=by kernel_rfl
def F_19Parse:List AV→Option AV:=F_tab K19Parse0A K19Parse0R
theorem K19Parse_ok(H:∀ m,GamOK Tryz.prog (gv1 m) (B19 m))(m:GvP):PureOK Tryz.prog (gv1 m) Fn.q111 F_19Parse:=tab_ok (genS_ok (by kernel_rfl) (H m) 40) (K19Parse0_run m)
end Go.Proofs.YtbfcbkjemlgnpaaGreatDoor
namespace Go.Proofs.YtbfcbkjemlgnpaaGreatDoor
open Go.RowKit
def K19PParse0A:List AV:=[.str [107,101,101,112,32,49,10,100,114,111,112,32,49,10,97,100,100,32,49,10,99]]
def K19PParse0R:AV:=.tup [.agg [.str [],.sl [[.int .i64 1,.int .i64 1,.sl []],[.int .i64 2,.int .i64 1,.sl []],[.int .i64 3,.int .i64 1,.sl [[.str [99]]]]]],.int .i64 0]
theorem K19PParse0_run(m:GvP):at1 (genS Tryz.prog (gv1 m) fe19 2000 (B19 m) 40) Fn.patch_Parse K19PParse0A=some K19PParse0R:=by kernel_rfl
def F_19PParse:List AV→Option AV:=F_tab K19PParse0A K19PParse0R
theorem K19PParse_ok(H:∀ m,GamOK Tryz.prog (gv1 m) (B19 m))(m:GvP):PureOK Tryz.prog (gv1 m) Fn.patch_Parse F_19PParse:=tab_ok (genS_ok (by kernel_rfl) (H m) 40) (K19PParse0_run m)
end Go.Proofs.YtbfcbkjemlgnpaaGreatDoor
namespace Go.Proofs.YtbfcbkjemlgnpaaGreatDoor
open Go.RowKit
noncomputable def B19b1(m:GvP):Gam:=(B19 m).add Fn.q111 (.pure F_19Parse)
theorem b19b1_ok(H:∀ m,GamOK Tryz.prog (gv1 m) (B19 m))(m:GvP):GamOK Tryz.prog (gv1 m) (B19b1 m):=gam_add (H m) (by kernel_rfl) (K19Parse_ok H m)
noncomputable def B19b(m:GvP):Gam:=(B19b1 m).add Fn.patch_Parse (.pure F_19PParse)
theorem b19b_ok(H:∀ m,GamOK Tryz.prog (gv1 m) (B19 m))(m:GvP):GamOK Tryz.prog (gv1 m) (B19b m):=gam_add (b19b1_ok H m) (by kernel_rfl) (K19PParse_ok H m)
end Go.Proofs.YtbfcbkjemlgnpaaGreatDoor
