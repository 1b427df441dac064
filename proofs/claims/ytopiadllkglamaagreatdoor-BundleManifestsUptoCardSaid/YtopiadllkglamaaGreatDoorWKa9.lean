/- The contracts that awake of law 46 is run over,proved from the library's. The library's contracts at this program. -/
import Derived.Test.YtopiadllkglamaaGreatDoorWKa1
import Derived.Test.YtopiadllkglamaaGreatDoorWRmL
import Derived.Test.YtopiadllkglamaaGreatDoorWRmM
import Derived.Test.YtopiadllkglamaaGreatDoorWRmN
import Derived.Test.YtopiadllkglamaaGreatDoorWShelf
namespace Go.Proofs.YtopiadllkglamaaGreatDoor
open Go.RowKit
structure Lb46 (m : GvP) : Prop where
 split : zd0 Tryz.prog (gv1 m) Fn.q70 zB5
 itoa : zd0 Tryz.prog (gv1 m) Fn.q75 zE9
 hp : zd0 Tryz.prog (gv1 m) Fn.q15 zf7
 clone : zd0 Tryz.prog (gv1 m) Fn.q20 zw4
 contains : zd0 Tryz.prog (gv1 m) Fn.q54 zG4
 count : zd0 Tryz.prog (gv1 m) Fn.q71 zV8
 cut : zd0 Tryz.prog (gv1 m) Fn.strings_Cut yr1
 atoi : zd0 Tryz.prog (gv1 m) Fn.q77 (zU1 181)
 cmp : zd0 Tryz.prog (gv1 m) Fn.q59 zN6
noncomputable def Bc0 : Gam := Gam.none
theorem we8 (m : GvP) (_H : Lb46 m) : GamOK Tryz.prog (gv1 m) Bc0 := yo1 _
noncomputable def Bc1 : Gam := Bc0.add Fn.q15 (.pure (zf7))
theorem we7 (m : GvP) (H : Lb46 m) : GamOK Tryz.prog (gv1 m) Bc1 := za4 (we8 m H) (by kernel_rfl) (H.hp)
noncomputable def Bc2 : Gam := Bc1.add Fn.q20 (.pure (zw4))
theorem xH2 (m : GvP) (H : Lb46 m) : GamOK Tryz.prog (gv1 m) Bc2 := za4 (we7 m H) (by kernel_rfl) (H.clone)
noncomputable def Bc3 : Gam := Bc2.add Fn.q41 (.pure (zf7))
theorem xH1 (m : GvP) (H : Lb46 m) : GamOK Tryz.prog (gv1 m) Bc3 := za4 (xH2 m H) (by kernel_rfl) (Pure.q41 (xH2 m H) (zU0 rfl))
noncomputable def Bc4 : Gam := Bc3.add Fn.q73 (.pure (zw4))
theorem xH0 (m : GvP) (H : Lb46 m) : GamOK Tryz.prog (gv1 m) Bc4 := za4 (xH1 m H) (by kernel_rfl) (Pure.q73 (xH1 m H) (xs4 rfl))
noncomputable def Bc5 : Gam := Bc4.add Fn.q30 (.pure (xC7))
theorem xG9 (m : GvP) (H : Lb46 m) : GamOK Tryz.prog (gv1 m) Bc5 := za4 (xH0 m H) (by kernel_rfl) (Pure.q30 (xH0 m H) (xX0 _))
noncomputable def Bc6 : Gam := Bc5.add Fn.q80 (.pure (yq7))
theorem xG8 (m : GvP) (H : Lb46 m) : GamOK Tryz.prog (gv1 m) Bc6 := za4 (xG9 m H) (by kernel_rfl) (Pure.q80 (xG9 m H) (xu5 _ rfl))
noncomputable def Bc7 : Gam := Bc6.add Fn.q67 (.pure (yb7))
theorem xG7 (m : GvP) (H : Lb46 m) : GamOK Tryz.prog (gv1 m) Bc7 := za4 (xG8 m H) (by kernel_rfl) (Pure.q67 (xG8 m H) (yU7 _))
noncomputable def Bc8 : Gam := Bc7.add Fn.q56 (.pure (zK2))
theorem xG6 (m : GvP) (H : Lb46 m) : GamOK Tryz.prog (gv1 m) Bc8 := za4 (xG7 m H) (by kernel_rfl) (Pure.q56 (xG7 m H) (yz6 _))
noncomputable def Bc9 : Gam := Bc8.add Fn.q66 (.pure (zN5))
theorem xG5 (m : GvP) (H : Lb46 m) : GamOK Tryz.prog (gv1 m) Bc9 := za4 (xG6 m H) (by kernel_rfl) (Pure.q66 (xG6 m H) (yY0 _ rfl rfl rfl))
noncomputable def Bc10 : Gam := Bc9.add Fn.q25 (.gen (zr6))
theorem xq1 (m : GvP) (H : Lb46 m) : GamOK Tryz.prog (gv1 m) Bc10 := za4 (xG5 m H) (by kernel_rfl) (Gen.q25 (xG5 m H) (xr3 _ rfl))
noncomputable def Bc11 : Gam := Bc10.add Fn.q27 (.gen (zR8))
theorem xq0 (m : GvP) (H : Lb46 m) : GamOK Tryz.prog (gv1 m) Bc11 := za4 (xq1 m H) (by kernel_rfl) (Gen.q27 (xq1 m H) (xD0 _))
noncomputable def Bc12 : Gam := Bc11.add Fn.digest_New (.gen (xC8))
theorem xp9 (m : GvP) (H : Lb46 m) : GamOK Tryz.prog (gv1 m) Bc12 := za4 (xq0 m H) (by kernel_rfl) (Gen.digest_New (xq0 m H) (wf6 _))
noncomputable def Bc13 : Gam := Bc12.add Fn.q26 (.gen (zR5))
theorem xp8 (m : GvP) (H : Lb46 m) : GamOK Tryz.prog (gv1 m) Bc13 := za4 (xp9 m H) (by kernel_rfl) (Gen.q26 (xp9 m H) (xC3 _ rfl))
noncomputable def Bc14 : Gam := Bc13.add Fn.q32 (.gen (yj6))
theorem xp7 (m : GvP) (H : Lb46 m) : GamOK Tryz.prog (gv1 m) Bc14 := za4 (xp8 m H) (by kernel_rfl) (Gen.q32 (xp8 m H) (wf4 _ rfl rfl))
noncomputable def Bc15 : Gam := Bc14.add Fn.digest_Sum (.pure (zz3))
theorem yI9 (m : GvP) (H : Lb46 m) : GamOK Tryz.prog (gv1 m) Bc15 := za4 (xp7 m H) (by kernel_rfl) (Pure.digest_Sum (xp7 m H) (xO1 _ rfl rfl rfl))
noncomputable def Bc16 : Gam := Bc15.add Fn.q16 (.pure (zw2))
theorem xp6 (m : GvP) (H : Lb46 m) : GamOK Tryz.prog (gv1 m) Bc16 := za4 (yI9 m H) (by kernel_rfl) (Pure.q16 (yI9 m H) (yx8 _))
noncomputable def Bc17 : Gam := Bc16.add Fn.q14 (.pure (zg9))
theorem xQ2 (m : GvP) (H : Lb46 m) : GamOK Tryz.prog (gv1 m) Bc17 := za4 (xp6 m H) (by kernel_rfl) (Pure.q14 (xp6 m H) (zT6 _ rfl))
noncomputable def Bc18 : Gam := Bc17.add Fn.q12 (.gen ((zr7 [194,22])))
theorem xp5 (m : GvP) (H : Lb46 m) : GamOK Tryz.prog (gv1 m) Bc18 := za4 (xQ2 m H) (by kernel_rfl) (xt6 (gv1 m))
noncomputable def Bc19 : Gam := Bc18.add Fn.q23 (.gen (zm2 zQ9))
theorem xp4 (m : GvP) (H : Lb46 m) : GamOK Tryz.prog (gv1 m) Bc19 := za4 (xp5 m H) (by kernel_rfl) (LookB.q23 (xp5 m H) (xV7 rfl rfl))
noncomputable def Bc20 : Gam := Bc19.add Fn.q22 (.pure (yC4))
theorem xp3 (m : GvP) (H : Lb46 m) : GamOK Tryz.prog (gv1 m) Bc20 := za4 (xp4 m H) (by kernel_rfl) (PureB.q22 (xp4 m H) xV3)
noncomputable def Bc21 : Gam := Bc20.add Fn.q34 (.gen ((yY5 183 158)))
theorem zB3 (m : GvP) (H : Lb46 m) : GamOK Tryz.prog (gv1 m) Bc21 := za4 (xp3 m H) (by kernel_rfl) (GenZ.q34 (xp3 m H) (wf2 _ rfl rfl rfl rfl))
theorem we3 (m : GvP) (_H : Lb46 m) : GamOK Tryz.prog (gv1 m) Bs0 := yo1 _
theorem we2 (m : GvP) (H : Lb46 m) : GamOK Tryz.prog (gv1 m) Bs1 := za4 (we3 m H) (by kernel_rfl) (H.split)
theorem we1 (m : GvP) (H : Lb46 m) : GamOK Tryz.prog (gv1 m) Bs2 := za4 (we2 m H) (by kernel_rfl) ((zB3 m H).ok 101 (.pure zf7) (by rfl))
theorem we0 (m : GvP) (H : Lb46 m) : GamOK Tryz.prog (gv1 m) Bs3 := za4 (we1 m H) (by kernel_rfl) (H.contains)
theorem wd9 (m : GvP) (H : Lb46 m) : GamOK Tryz.prog (gv1 m) Bs4 := za4 (we0 m H) (by kernel_rfl) (H.count)
theorem wd8 (m : GvP) (H : Lb46 m) : GamOK Tryz.prog (gv1 m) Bs5 := za4 (wd9 m H) (by kernel_rfl) (H.cut)
theorem wd7 (m : GvP) (H : Lb46 m) : GamOK Tryz.prog (gv1 m) Bs6 := za4 (wd8 m H) (by kernel_rfl) (H.itoa)
theorem wd6 (m : GvP) (H : Lb46 m) : GamOK Tryz.prog (gv1 m) Bs7 := za4 (wd7 m H) (by kernel_rfl) (H.atoi)
theorem wd5 (m : GvP) (H : Lb46 m) : GamOK Tryz.prog (gv1 m) Bs8 := za4 (wd6 m H) (by kernel_rfl) (H.cmp)
theorem wd4 (m : GvP) (H : Lb46 m) : GamOK Tryz.prog (gv1 m) Bs9 := za4 (wd5 m H) (by kernel_rfl) ((zB3 m H).ok 329 (.pure zw4) (by rfl))
theorem xQ0 (m : GvP) (H : Lb46 m) : GamOK Tryz.prog (gv1 m) Bs10 := za4 (wd4 m H) (by kernel_rfl) (yz5 (gv1 m))
theorem xP9 (m : GvP) (H : Lb46 m) : GamOK Tryz.prog (gv1 m) Bs11 := za4 (xQ0 m H) (by kernel_rfl) ((zB3 m H).ok 73 (.pure zz3) (by rfl))
theorem xP8 (m : GvP) (H : Lb46 m) : GamOK Tryz.prog (gv1 m) Bs12 := za4 (xP9 m H) (by kernel_rfl) (yW6 (gv1 m))
theorem xP7 (m : GvP) (H : Lb46 m) : GamOK Tryz.prog (gv1 m) Bs13 := za4 (xP8 m H) (by kernel_rfl) (xo6 (gv1 m))
theorem xP6 (m : GvP) (H : Lb46 m) : GamOK Tryz.prog (gv1 m) Bs14 := za4 (xP7 m H) (by kernel_rfl) (xo7 (gv1 m))
theorem xP5 (m : GvP) (H : Lb46 m) : GamOK Tryz.prog (gv1 m) Bs15 := za4 (xP6 m H) (by kernel_rfl) (yW7 (gv1 m))
theorem xP4 (m : GvP) (H : Lb46 m) : GamOK Tryz.prog (gv1 m) Bs16 := za4 (xP5 m H) (by kernel_rfl) (yW8 (gv1 m))
theorem xP3 (m : GvP) (H : Lb46 m) : GamOK Tryz.prog (gv1 m) Bs17 := za4 (xP4 m H) (by kernel_rfl) (xg1 (gv1 m))
theorem xP2 (m : GvP) (H : Lb46 m) : GamOK Tryz.prog (gv1 m) Bs18 := za4 (xP3 m H) (by kernel_rfl) ((zB3 m H).ok 104 (.pure zw2) (by rfl))
theorem xP1 (m : GvP) (H : Lb46 m) : GamOK Tryz.prog (gv1 m) Bs19 := za4 (xP2 m H) (by kernel_rfl) ((zB3 m H).ok 60 (.pure zg9) (by rfl))
theorem xP0 (m : GvP) (H : Lb46 m) : GamOK Tryz.prog (gv1 m) Bs20 := za4 (xP1 m H) (by kernel_rfl) ((zB3 m H).ok 21 (.gen (zr7 [194,22])) (by rfl))
theorem xO9 (m : GvP) (H : Lb46 m) : GamOK Tryz.prog (gv1 m) Bs21 := za4 (xP0 m H) (by kernel_rfl) ((zB3 m H).ok 183 (.gen (zm2 zQ9)) (by rfl))
theorem xO8 (m : GvP) (H : Lb46 m) : GamOK Tryz.prog (gv1 m) Bs22 := za4 (xO9 m H) (by kernel_rfl) ((zB3 m H).ok 158 (.pure yC4) (by rfl))
theorem xO7 (m : GvP) (H : Lb46 m) : GamOK Tryz.prog (gv1 m) Bs23 := za4 (xO8 m H) (by kernel_rfl) ((zB3 m H).ok 157 (.gen (yY5 183 158)) (by rfl))
theorem xq3 (m : GvP) (H : Lb46 m) : GamOK Tryz.prog (gv1 m) B46a := xO7 m H
theorem we9 (m : GvP) (H : Lb46 m) : GamOK Tryz.prog (gv1 m) (B46 m) := za4 (xq3 m H) (by kernel_rfl) (xO0 (zq9 (by kernel_rfl) (xq3 m H) 12))
end Go.Proofs.YtopiadllkglamaaGreatDoor
namespace Go.Proofs.YtopiadllkglamaaGreatDoor
open Go.RowKit
theorem lb46 (m : GvP) : Lb46 m where
 split := yS9 (g := 0) (ty := 9) rfl (fun s sep w hs hm h1 => Tryz.strings_Split s sep m.m w hs hm h1)
 itoa := xf1 (g := 1) (by kernel_rfl) rfl (fun n h0 h1 w ht => Tryz.strconv_Itoa n h0 h1 w ht)
 hp := yc8 (fun s t w => Tryz.stringslite_HasPrefix s t w)
 clone := yI1 (fun s w hs => Tryz.stringslite_Clone s w hs)
 contains := yo6 (g := 0) rfl (fun s t w hs hm => Tryz.strings_Contains s t m.m w hs hm)
 count := yH8 (fun s c w => Tryz.strings_Count_one s c w)
 cut := xA0 (g := 0) rfl (fun s sep w hs hm => Tryz.strings_Cut s sep m.m w hs hm)
 atoi := xq6 (g4 := 2) (g5 := 3) (e5 := 5) rfl rfl (fun s h v hv w => Tryz.strconv_Atoi_ok s h v hv w) (fun s h hv ev w hc he => (Tryz.strconv_Atoi_syntax s h hv ev w hc he).mono fun e w' ⟨N,h1,_,_,h4⟩ => ⟨⟨N,h1⟩,h4⟩) (fun s h hv ev w hc he => (Tryz.strconv_Atoi_range s h hv ev w hc he).mono fun e w' ⟨N,h1,_,_,h4⟩ => ⟨⟨N,h1⟩,h4⟩)
 cmp := yz7 (fun s t w => Tryz.strings_Compare s t w)
end Go.Proofs.YtopiadllkglamaaGreatDoor
