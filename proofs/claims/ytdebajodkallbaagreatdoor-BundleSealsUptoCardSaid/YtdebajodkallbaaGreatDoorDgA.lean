/- The functions of manifests and the dig -/
import Derived.Test.YtdebajodkallbaaGreatDoorRmG
import Derived.Test.YtdebajodkallbaaGreatDoorS2
namespace Go.Proofs.YtdebajodkallbaaGreatDoor
open Go.RowKit Go.IntWalk
def Ks.c0:List Nat:=[0,1,4]
def Rs.c0:List RV:=[.tmp 4]
def Mc.c0:MC:=.s [Km 4 (.c (.u 0))] (.r [zm 5 0,zm 6 1,iz 7 (.conv .u64) [.t 6],zb 8 .shl 5 7,zm 9 0,zm 10 1,iz 11 (.bin .sub) [.i 64,.t 10],iz 12 (.conv .u64) [.t 11],zb 13 .shr 9 12,zb 14 .or 8 13,zM 4 14])
def Ks.c9:List Nat:=[0,1,4,5]
def Rs.c9:List RV:=[.tmp 4]
def Mc.c9:MC:=.s [Kc 4 0] (.s [Zb 6 1 [.i 0,.i 1,.i 62,.i 28,.i 27,.i 36,.i 44,.i 6,.i 55,.i 20,.i 3,.i 10,.i 43,.i 25,.i 39,.i 41,.i 45,.i 15,.i 21,.i 8,.i 18,.i 2,.i 61,.i 56,.i 14],zM 5 6] (.r [zm 7 5,zm 8 0,zm 9 1,iz 10 (.bin .mul) [.i 5,.t 9],zb 11 .add 8 10,zi 12 1 7 11,zl 13 12,zM 4 13]))
def Ks.dj:List Nat:=[0,2,3]
def Rs.dj:List RV:=[.tmp 2]
def Mc.dj:MC:=.s [Km 2 (.c (.u 0))] (.s [Zb 4 1 [.c (.u 1),.c (.u 32898),.c (.u 9223372036854808714),.c (.u 9223372039002292224),.c (.u 32907),.c (.u 2147483649),.c (.u 9223372039002292353),.c (.u 9223372036854808585),.c (.u 138),.c (.u 136),.c (.u 2147516425),.c (.u 2147483658),.c (.u 2147516555),.c (.u 9223372036854775947),.c (.u 9223372036854808713),.c (.u 9223372036854808579),.c (.u 9223372036854808578),.c (.u 9223372036854775936),.c (.u 32778),.c (.u 9223372039002259466),.c (.u 9223372039002292353),.c (.u 9223372036854808704),.c (.u 2147483649),.c (.u 9223372039002292232)],zM 3 4] (.r [zm 5 3,zm 6 0,zi 7 1 5 6,zl 8 7,zM 2 8]))
def Ks.am:List Nat:=[0,1,2,4,5,6,7,8,9,10,11,12,13]
def Rs.am:List RV:=[.cell 4 25 true]
def Mc.am_L0:MC:=.y [zm 14 6,zc 15 .lss 14 5] 15 0 (.b 1 (.rgd [zm 18 6,zm 19 6,Za 20 25 1 2 19,zl 21 20,zm 22 6,zc 23 .add 22 5,Za 24 25 1 2 23,zl 25 24,zb 26 .xor 21 25,zm 27 6,zc 28 .add 27 10,Za 29 25 1 2 28,zl 30 29,zb 31 .xor 26 30,zm 32 6,zc 33 .add 32 15,Za 34 25 1 2 33,zl 35 34,zb 36 .xor 31 35,zm 37 6,zc 38 .add 37 20,Za 39 25 1 2 38,zl 40 39,zb 41 .xor 36 40,Za 42 5 1 5 18,zs 1 42 41]) (.reg [zm 16 6,zc 17 .add 16 1,zM 6 17]))
def Mc.am_L2:MC:=.y [zm 59 10,zc 60 .lss 59 5] 60 4 (.b 5 (.rgd [zm 63 10,zm 64 8,iz 65 (.bin .mul) [.i 2,.t 64],zm 66 10,iz 67 (.bin .mul) [.i 3,.t 66],zb 68 .add 65 67,zc 69 .rem 68 5,iz 70 (.bin .mul) [.i 5,.t 69],zb 71 .add 63 70,zm 72 8,zm 73 10,iz 74 (.bin .mul) [.i 5,.t 73],zb 75 .add 72 74,Za 76 25 1 2 75,zl 77 76,zm 78 9,zb 79 .xor 77 78,zm 80 8,zm 81 10,zg 82 Fn.c9 [.t 80,.t 81],zg 83 Fn.c0 [.t 79,.t 82],Za 84 25 1 7 71,zs 1 84 83]) (.reg [zm 61 10,zc 62 .add 61 1,zM 10 62]))
def Mc.am_L1:MC:=.y [zm 43 8,zc 44 .lss 43 5] 44 2 (.b 3 (.d [zm 47 8,zc 48 .add 47 4,zc 49 .rem 48 5,Za 50 5 1 5 49,zl 51 50,zm 52 8,zc 53 .add 52 1,zc 54 .rem 53 5,Za 55 5 1 5 54,zl 56 55,zg 57 Fn.c0 [.t 56,.i 1],zb 58 .xor 51 57,zM 9 58] (.s [Kc 10 0] (.blk 4 (.loop [] Mc.am_L2)))) (.reg [zm 45 8,zc 46 .add 45 1,zM 8 46]))
def Mc.am_L4:MC:=.y [zm 89 13,zc 90 .lss 89 5] 90 8 (.b 9 (.rgd [zm 93 12,zm 94 13,iz 95 (.bin .mul) [.i 5,.t 94],zb 96 .add 93 95,zm 97 12,zm 98 13,iz 99 (.bin .mul) [.i 5,.t 98],zb 100 .add 97 99,Za 101 25 1 7 100,zl 102 101,zm 103 12,zc 104 .add 103 1,zc 105 .rem 104 5,zm 106 13,iz 107 (.bin .mul) [.i 5,.t 106],zb 108 .add 105 107,Za 109 25 1 7 108,zl 110 109,iz 111 (.un .xor) [.t 110],zm 112 12,zc 113 .add 112 2,zc 114 .rem 113 5,zm 115 13,iz 116 (.bin .mul) [.i 5,.t 115],zb 117 .add 114 116,Za 118 25 1 7 117,zl 119 118,zb 120 .and 111 119,zb 121 .xor 102 120,Za 122 25 1 11 96,zs 1 122 121]) (.reg [zm 91 13,zc 92 .add 91 1,zM 13 92]))
def Mc.am_L3:MC:=.y [zm 85 12,zc 86 .lss 85 5] 86 6 (.b 7 (.s [Kc 13 0] (.blk 8 (.loop [] Mc.am_L4))) (.reg [zm 87 12,zc 88 .add 87 1,zM 12 88]))
def Mc.am:MC:=.s [Kx 2 0,Ka 4 (.alloc zz25)] (.s [Ka 5 (.alloc [.u 0,.u 0,.u 0,.u 0,.u 0])] (.seq (.s [Kc 6 0] (.blk 0 (.loop [] Mc.am_L0))) (.s [Ka 7 (.alloc zz25)] (.seq (.s [Kc 8 0] (.blk 2 (.loop [9,10] Mc.am_L1))) (.s [Ka 11 (.alloc zz25)] (.seq (.s [Kc 12 0] (.blk 6 (.loop [13] Mc.am_L3))) (.s [iz 123 (.aadr 25 1) [.t 11,.i 0],zl 124 123,zm 125 1,zb 126 .xor 124 125,iz 127 (.aadr 25 1) [.t 11,.i 0],zs 1 127 126] (.r [zL 128 25 11,zs 25 4 128]))))))))
def Ks.br:List Nat:=[0,1,2,3]
def Rs.br:List RV:=[.cell 2 25 true]
def Mc.br_L0:MC:=.y [zm 4 3,zc 5 .lss 4 24] 5 0 (.b 1 (.rgd [zL 8 25 1,zm 9 3,zg 10 Fn.dj [.t 9],zg 11 Fn.am [.t 8,.t 10],zs 25 1 11]) (.reg [zm 6 3,zc 7 .add 6 1,zM 3 7]))
def Mc.br:MC:=.s [Kx 1 0,Ka 2 (.alloc zz25)] (.seq (.s [Kc 3 0] (.blk 0 (.loop [] Mc.br_L0))) (.r [zL 12 25 1,zs 25 2 12]))
def Ks.aw:List Nat:=[0,2,3,4,5,6,7,8]
def Rs.aw:List RV:=[.tmp 2]
def Mc.aw_L0:MC:=.y [zm 14 3,zn 15 1 14,zc 16 .rem 15 136,zc 17 .neq 16 0] 17 0 (.blk 1 (.reg [zm 18 3,Zb 19 1 [.c (.int .u8 0)],Zs 20 1 1 18 19,zM 3 20]))
def Mc.aw_L2:MC:=.y [zm 39 6,zc 40 .lss 39 136] 40 4 (.b 5 (.rgd [zm 43 6,zc 44 .quo 43 8,zm 45 6,zc 46 .quo 45 8,Za 47 25 1 4 46,zl 48 47,zm 49 3,zm 50 5,zm 51 6,zb 52 .add 50 51,zi 53 1 49 52,zl 54 53,iz 55 (.conv .u64) [.t 54],zm 56 6,zc 57 .rem 56 8,iz 58 (.bin .mul) [.i 8,.t 57],iz 59 (.conv .u64) [.t 58],zb 60 .shl 55 59,zb 61 .xor 48 60,Za 62 25 1 4 44,zs 1 62 61]) (.reg [zm 41 6,zc 42 .add 41 1,zM 6 42]))
def Mc.aw_L1:MC:=.y [zm 33 5,zm 34 3,zn 35 1 34,zb 36 .lss 33 35] 36 2 (.b 3 (.seq (.s [Kc 6 0] (.blk 4 (.loop [] Mc.aw_L2))) (.reg [zL 63 25 4,zg 64 Fn.br [.t 63],zs 25 4 64])) (.reg [zm 37 5,zc 38 .add 37 136,zM 5 38]))
def Mc.aw_L3:MC:=.y [zm 66 8,zc 67 .lss 66 32] 67 6 (.b 7 (.reg [zm 70 7,zm 71 8,zm 72 8,zc 73 .quo 72 8,Za 74 25 1 4 73,zl 75 74,zm 76 8,zc 77 .rem 76 8,iz 78 (.bin .mul) [.i 8,.t 77],iz 79 (.conv .u64) [.t 78],zb 80 .shr 75 79,iz 81 (.conv .u8) [.t 80],zi 82 1 70 71,zs 1 82 81]) (.reg [zm 68 8,zc 69 .add 68 1,zM 8 69]))
def Mc.aw:MC:=.s [Km 2 (.c (.str []))] (.s [zm 9 0,iz 10 .s2b [.t 9],zM 3 10] (.s [zm 11 3,Zb 12 1 [.c (.int .u8 6)],Zs 13 1 1 11 12,zM 3 13] (.b 0 (.loop [] Mc.aw_L0) (.s [zm 21 3,zm 22 3,zn 23 1 22,zc 24 .sub 23 1,zm 25 3,zm 26 3,zn 27 1 26,zc 28 .sub 27 1,zi 29 1 25 28,zl 30 29,iz 31 (.bin .or) [.t 30,.c (.int .u8 128)],zi 32 1 21 24,zs 1 32 31] (.s [Ka 4 (.alloc zz25)] (.seq (.s [Kc 5 0] (.blk 2 (.loop [6] Mc.aw_L1))) (.s [iz 65 (.mksl [.int .u8 0] 1) [.i 32,.i 32],zM 7 65] (.seq (.s [Kc 8 0] (.blk 6 (.loop [] Mc.aw_L3))) (.r [zm 83 7,iz 84 .b2s [.t 83],zM 2 84])))))))))
def Ks.b3:List Nat:=[0,2,3,4,5,6]
def Rs.b3:List RV:=[.tmp 2,.tmp 3]
def Mc.b3_L0:MC:=.y [zm 10 6,zm 11 0,zn 12 0 11,zb 13 .lss 10 12] 13 0 (.b 1 (.rgd [zm 16 5,zm 17 4,zm 18 0,zm 19 6,Zi 20 18 19,iz 21 (.bin .shr) [.t 20,.c (.u 4)],Zi 22 17 21,zm 23 4,zm 24 0,zm 25 6,Zi 26 24 25,iz 27 (.bin .and) [.t 26,.c (.int .u8 15)],Zi 28 23 27,Zb 29 1 [.t 22,.t 28],Zs 30 1 1 16 29,zM 5 30]) (.reg [zm 14 6,zc 15 .add 14 1,zM 6 15]))
def Mc.b3:MC:=.s [Km 2 (.c (.str [])),Kc 3 0] (.w [zm 7 0,zn 8 0 7,zc 9 .neq 8 32] 9 (.r [Km 2 (.c (.str [])),Kc 3 1]) (.s [Km 4 (.c (.str [48,49,50,51,52,53,54,55,56,57,97,98,99,100,101,102]))] (.s [kz 5 (.newnil 1) []] (.seq (.s [Kc 6 0] (.blk 0 (.loop [] Mc.b3_L0))) (.r [zm 31 5,iz 32 .b2s [.t 31],zM 2 32,Kc 3 0])))))
def Ks.d2:List Nat:=[0,2,3]
def Rs.d2:List RV:=[.tmp 2]
def Mc.d2:MC:=.s [Km 2 (.c (.str []))] (.s [zm 6 0,zg 7 Fn.aw [.t 6],zg 8 Fn.b3 [.t 7],zm 5 8,ze 9 0 5,ze 10 1 5,zM 3 9,zm 4 10] (.r [zm 11 3,zM 2 11]))
def Ks.d4:List Nat:=[0,2,3]
def Rs.d4:List RV:=[.tmp 2]
def Mc.d4:MC:=.s [Km 2 (.c (.str []))] (.s [zm 6 0,zg 7 Fn.co [.t 6],zg 8 Fn.bh [.t 7],zm 5 8,ze 9 0 5,ze 10 1 5,zM 3 9,zm 4 10] (.r [zm 11 3,zM 2 11]))
def Ks.dv:List Nat:=[0,1,4]
def Rs.dv:List RV:=[.tmp 4]
def Ow.__strings_Builder__WriteByte:List Nat:=[14,1000080]
def Mc.dv:MC:=.s [Km 4 (.c .nili)] (.s [zm 5 0,iz 6 (.callg Fn.d9) [.t 5]] (.s [zm 7 0,zm 8 0,Zk 9 8,zf 10 1 9,zl 11 10,zm 12 1,Zb 13 1 [.t 12],iz 14 (.appT false 1 1 5) [.t 11,.t 13],Zk 15 7,zf 16 1 15,zs 1 16 14] (.r [Km 4 (.c .nili)])))
def Ks.bz:List Nat:=[0,2]
def Rs.bz:List RV:=[.tmp 2]
def Mc.bz:MC:=.s [Km 2 (.c (.str []))] (.d [zm 3 0,Zk 4 3,zf 5 1 4,zl 6 5,iz 7 .usd [.t 6],zm 8 0,Zk 9 8,zf 10 1 9,zl 11 10,zn 12 1 11,iz 13 (.ustr 5) [.t 7,.t 12],zM 2 13] .ret)
def Ks.c1:List Nat:=[0,1]
def Rs.c1:List RV:=[]
def Ow.digest_Hex_1:List Nat:=[1000113]
def Mc.c1:MC:=.reg [zm 3 0,iz 4 .istr [.c (.str [48,49,50,51,52,53,54,55,56,57,97,98,99,100,101,102]),.t 3],iz 5 (.callg Fn.dv) [.t 1,.t 4]]
def Ks.bh:List Nat:=[0,2,3,4,5,6]
def Rs.bh:List RV:=[.tmp 2,.tmp 3]
def Ow.bh:List Nat:=[1000050]
def Mc.bh_L0:MC:=.y [zm 11 6,zm 12 0,zn 13 0 12,zb 14 .lss 11 13] 14 0 (.b 1 (.s [zm 17 5,zm 18 0,zm 19 6,Zi 20 18 19,iz 21 (.bin .shr) [.t 20,.c (.u 4)],Zv 22 [.t 17,.t 21]] (.reg [zm 23 5,zm 24 0,zm 25 6,Zi 26 24 25,iz 27 (.bin .and) [.t 26,.c (.int .u8 15)],Zv 28 [.t 23,.t 27]])) (.reg [zm 15 6,zc 16 .add 15 1,zM 6 16]))
def Mc.bh:MC:=.s [Km 2 (.c (.str [])),Kc 3 0] (.w [zm 7 0,zn 8 0 7,zc 9 .neq 8 32] 9 (.r [Km 2 (.c (.str [])),Kc 3 1]) (.s [kz 4 (.allocB 95 5) []] (.s [iz 10 (.mkfn Fn.c1) [.t 4],zM 5 10] (.seq (.s [Kc 6 0] (.blk 0 (.loop [] Mc.bh_L0))) (.r [iz 29 (.callg Fn.bz) [.t 4],zM 2 29,Kc 3 0])))))
def inW(a:Int):Prop:=0<=a/\a<18446744073709551616
theorem xw4(a:Int):inW (IntKind.u64.wrap a):=by
 unfold inW IntKind.wrap;simp[IntKind.signed,IntKind.bits];exact⟨Int.emod_nonneg _ (by decide),Int.emod_lt_of_pos _ (by decide)⟩
theorem ZU{a:Int}(h:inW a):IntKind.u64.wrap a=a:=by
 unfold inW at h;unfold IntKind.wrap;simp[IntKind.signed,IntKind.bits];exact Int.emod_eq_of_lt h.1 h.2
theorem LO{a:Int}(h:inW a):xo 0 a=a:=by
 have e:(BitVec.ofInt 64 0^^^BitVec.ofInt 64 a)=BitVec.ofInt 64 a:=by simp
 unfold xo;rw[e,DO];have b:a%((2^64:Nat):Int)=a:=Int.emod_eq_of_lt h.1 h.2;rw[b,Int.toNat_of_nonneg h.1,ZU h]
theorem za0(a b:Int):inW (xo a b):=xw4 _
def pW(a:List Int):Nat->Nat->List Int->List Int
 |0,_,b=>b|n+1,x,b=>pW a n (x+1) (b.set x (xo (xo (xo (xo (a.getD x 0) (a.getD (x+5) 0)) (a.getD (x+10) 0)) (a.getD (x+15) 0)) (a.getD (x+20) 0)))
def vV(b:List Int)(d:Int)(x:Nat):Nat->Nat->List Int->List Int
 |0,_,a=>a|n+1,y,a=>vV b d x n (y+1) (a.set (y+5*((2*x+3*y)%5)) (mX (xo (b.getD (x+5*y) 0) d) (offsL.getD (x+5*y) 0)))
def pJ(c b:List Int):Nat->Nat->List Int->List Int
 |0,_,a=>a|n+1,x,a=>pJ c b n (x+1) (vV c (xo (b.getD ((x+4)%5) 0) (mX (b.getD ((x+1)%5) 0) 1)) x 5 0 a)
def wA(a:List Int)(x:Nat):Nat->Nat->List Int->List Int
 |0,_,b=>b|n+1,y,b=>wA a x n (y+1) (b.set (x+5*y) (xo (a.getD (x+5*y) 0) (an (nt (a.getD ((x+1)%5+5*y) 0)) (a.getD ((x+2)%5+5*y) 0))))
def pM(b:List Int):Nat->Nat->List Int->List Int
 |0,_,a=>a|n+1,x,a=>pM b n (x+1) (wA b x 5 0 a)
def lR(a:List Int)(c:Int):List Int:=let m:=pM (pJ a (pW a 5 0 (List.replicate 5 0)) 5 0 (List.replicate 25 0)) 5 0 (List.replicate 25 0)
 m.set 0 (xo (m.getD 0 0) c)
theorem zP9(b:List Int):∀(n x:Nat)(a:List Int),(pW b n x a).length=a.length
 |0,_,_=>rfl|n+1,x,a=>by rw[pW,zP9 b n];simp
theorem WK(b:List Int)(d:Int)(x:Nat):∀(n y:Nat)(a:List Int),(vV b d x n y a).length=a.length
 |0,_,_=>rfl|n+1,y,a=>by rw[vV,WK b d x n];simp
theorem zC3(b c:List Int):∀(n x:Nat)(a:List Int),(pJ b c n x a).length=a.length
 |0,_,_=>rfl|n+1,x,a=>by rw[pJ,zC3 b c n,WK]
theorem XG(b:List Int)(x:Nat):∀(n y:Nat)(a:List Int),(wA b x n y a).length=a.length
 |0,_,_=>rfl|n+1,y,a=>by rw[wA,XG b x n];simp
theorem XH(b:List Int):∀(n x:Nat)(a:List Int),(pM b n x a).length=a.length
 |0,_,_=>rfl|n+1,x,a=>by rw[pM,XH b n,XG]
section
variable(a0 a1 a2 a3 a4 a5 a6 a7 a8 a9 a10 a11 a12 a13 a14 a15 a16 a17 a18 a19 a20 a21 a22 a23 a24:Int)
theorem xr6:pW [a0,a1,a2,a3,a4,a5,a6,a7,a8,a9,a10,a11,a12,a13,a14,a15,a16,a17,a18,a19,a20,a21,a22,a23,a24] 5 0 (List.replicate 5 0)=[xo (xo (xo (xo a0 a5) a10) a15) a20,xo (xo (xo (xo a1 a6) a11) a16) a21,xo (xo (xo (xo a2 a7) a12) a17) a22,xo (xo (xo (xo a3 a8) a13) a18) a23,xo (xo (xo (xo a4 a9) a14) a19) a24]:=by kernel_rfl
theorem xr5:lQ (List.replicate 5 0) 0 [a0,a1,a2,a3,a4,a5,a6,a7,a8,a9,a10,a11,a12,a13,a14,a15,a16,a17,a18,a19,a20,a21,a22,a23,a24]=[xo (xo (xo (xo (xo 0 a0) a5) a10) a15) a20,xo (xo (xo (xo (xo 0 a1) a6) a11) a16) a21,xo (xo (xo (xo (xo 0 a2) a7) a12) a17) a22,xo (xo (xo (xo (xo 0 a3) a8) a13) a18) a23,xo (xo (xo (xo (xo 0 a4) a9) a14) a19) a24]:=by kernel_rfl
end
def wK(z:List Int):List (Nat×Int)->List Int
 |[]=>z|p::r=>wK (z.set p.1 p.2) r
def rowO:List Nat:=[0,1,2,3,4,5,6,7,8,9,10,11,12,13,14,15,16,17,18,19,20,21,22,23,24]
def colO:List Nat:=[0,5,10,15,20,1,6,11,16,21,2,7,12,17,22,3,8,13,18,23,4,9,14,19,24]
def piN(i:Nat):Nat:=i/5+5*((2*(i%5)+3*(i/5))%5)
theorem xo4(V:Nat->Int):wK (List.replicate 25 0) (colO.map fun i=>(piN i,V i))=wK (List.replicate 25 0) (rowO.map fun i=>(piN i,V i)):=by kernel_rfl
theorem xo3(V:Nat->Int):wK (List.replicate 25 0) (colO.map fun i=>(i,V i))=rowO.map V:=by kernel_rfl
theorem xo5(V:Nat->Int)(a b p w x y z A B C c e f g j k l m n o q r t u v:Int):wK [a,b,p,w,x,y,z,A,B,C,c,e,f,g,j,k,l,m,n,o,q,r,t,u,v] (rowO.map fun i=>(i,V i))=rowO.map V:=by kernel_rfl
theorem VY(a:List Int)(h:a.length=25):∃a0 a1 a2 a3 a4 a5 a6 a7 a8 a9 a10 a11 a12 a13 a14 a15 a16 a17 a18 a19 a20 a21 a22 a23 a24:Int,a=[a0,a1,a2,a3,a4,a5,a6,a7,a8,a9,a10,a11,a12,a13,a14,a15,a16,a17,a18,a19,a20,a21,a22,a23,a24]:=by match a,h with|[a0,a1,a2,a3,a4,a5,a6,a7,a8,a9,a10,a11,a12,a13,a14,a15,a16,a17,a18,a19,a20,a21,a22,a23,a24],_=>exact⟨_,_,_,_,_,_,_,_,_,_,_,_,_,_,_,_,_,_,_,_,_,_,_,_,_,rfl⟩
def zC4(b a:List Int)(i:Nat):Int:=mX (xo (b.getD i 0) (xo (a.getD ((i%5+4)%5) 0) (mX (a.getD ((i%5+1)%5) 0) 1))) (offsL.getD i 0)
def zB9(t:List Int)(i:Nat):Int:=xo (t.getD i 0) (an (nt (t.getD (i-i%5+(i+1)%5) 0)) (t.getD (i-i%5+(i+2)%5) 0))
theorem yY8(b a z:List Int):pJ b a 5 0 z=wK z (colO.map fun i=>(piN i,zC4 b a i)):=by kernel_rfl
theorem xd0(t z:List Int):pM t 5 0 z=wK z (colO.map fun i=>(i,zB9 t i)):=by kernel_rfl
theorem yY3(t z:List Int):nL t 25 0 z=wK z (rowO.map fun i=>(i,zB9 t i)):=by kernel_rfl
theorem xu5:∀(a b z:List Int),a.length=25->nQ offsL b z 0 a=wK z (rowO.map fun i=>(piN i,zC4 a b i)):=by
 intro a b z h;obtain⟨a0,a1,a2,a3,a4,a5,a6,a7,a8,a9,a10,a11,a12,a13,a14,a15,a16,a17,a18,a19,a20,a21,a22,a23,a24,rfl⟩:=VY a h;kernel_rfl
theorem yr4{c:List Int}(e:c.length=25)(b:∀a∈c,inW a):pW c 5 0 (List.replicate 5 0)=lQ (List.replicate 5 0) 0 c:=by
 obtain⟨a0,a1,a2,a3,a4,a5,a6,a7,a8,a9,a10,a11,a12,a13,a14,a15,a16,a17,a18,a19,a20,a21,a22,a23,a24,rfl⟩:=VY c e;rw[xr6,xr5,LO (b a0 (by simp)),LO (b a1 (by simp)),LO (b a2 (by simp)),LO (b a3 (by simp)),LO (b a4 (by simp))]
theorem xu4{a cs:List Int}(b:a.length=25):pJ a cs 5 0 (List.replicate 25 0)=nQ offsL cs (List.replicate 25 0) 0 a:=by rw[yY8,xu5 a cs _ b,xo4]
theorem yY2{t b:List Int}(a:b.length=25):pM t 5 0 (List.replicate 25 0)=nL t 25 0 b:=by
 obtain⟨c,e,q,y,z,A,B,C,D,E,f,g,i,j,k,l,m,n,o,p,r,u,v,w,x,rfl⟩:=VY b a;rw[xd0,yY3,xo3,xo5]
theorem xj6{b:List Int}(e:b.length=25)(j:∀a∈b,inW a)(c:Int):lR b c=iE b offsL c:=by
 have f:=yr4 e j;have g:=xu4 (cs:=lQ (List.replicate 5 0) 0 b) e;have i:=yY2 (t:=nQ offsL (lQ (List.replicate 5 0) 0 b) (List.replicate 25 0) 0 b) e;simp only[lR,iE];rw[f,g,i]
theorem zB8(t:List Int):∀(n i:Nat)(b:List Int),(∀a∈b,inW a)->∀a∈nL t n i b,inW a
 |0,_,_,h=>h|n+1,i,b,h=>by
  rw[nL];refine zB8 t n (i+1) _ fun a c=>?_;rcases HY c with c|rfl;·exact h a c
  ·exact za0 _ _
theorem xk1{e g:List Int}{c:Int}(f:∀a∈e,inW a):∀a∈iE e g c,inW a:=by
 intro a b;simp only[iE]at b;rcases HY b with b|rfl;·exact zB8 _ _ _ _ f a b
 ·exact za0 _ _
theorem zF7{f g:List Int->Int->List Int}{P:List Int->Prop}(b:∀a c,P a->f a c=g a c)(e:∀a c,P a->P (g a c)):∀r a,P a->fX f a r=fX g a r/\P (fX g a r)
 |[],_,h=>⟨rfl,h⟩|c::r,a,h=>by
  have i:=zF7 b e r (g a c) (e a c h);simp only[fX,b a c h];exact i
def ZV(b:List Int):Prop:=b.length=25/\∀a∈b,inW a
theorem zG0(r a:List Int)(h:ZV a):fX lR a r=fX (fun a c=>iE a offsL c) a r/\ZV (fX (fun a c=>iE a offsL c) a r):=zF7 (P:=ZV) (fun a c h=>xj6 h.1 h.2 c) (fun a c h=>⟨by rw[KV];exact h.1,xk1 h.2⟩) r a h
theorem SZ:∀(c f:List Int)(i:Nat),(∀a∈f,inW a)->∀a∈iM f i c,inW a
 |[],_,_,h=>h|b::c,f,i,h=>by
  rw[iM];refine SZ c _ (i+1) fun a e=>?_;rcases HY e with e|rfl;·exact h a e
  ·exact za0 _ _
def orB(a b:Int):Int:=IntKind.u8.wrap (BitVec.ofInt 8 a|||BitVec.ofInt 8 b).toNat
@[simp]theorem xz6{a b:Int}:aW .or (.int .u8 a) (.int .u8 b)=some (.int .u8 (orB a b)):=rfl
def CF(b a:List Int):List Int:=fX lR (iM b 0 (a.take 136)) constL
def kG:Nat->List Int->List Int->List Int
 |0,a,_=>a|n+1,a,b=>kG n (CF a b) (b.drop 136)
def gF(n:Nat):Nat:=(136-(n+1)%136)%136
def gO(a:List Int):List Int:=a++6::List.replicate (gF a.length) 0
def gH(a:List Int):List Int:=(gO a).set ((gO a).length-1) (orB ((gO a).getD ((gO a).length-1) 0) 128)
def RQ(d:Bs):Bs:=kA (kU (kG ((gH (cF d)).length/136) zs25 (gH (cF d))) 32 0 (List.replicate 32 0))
theorem XI(a:List Int):(gO a).length=a.length+1+gF a.length:=by simp[gO];omega
theorem zF0(n:Nat):(n+1+gF n)%136=0:=by unfold gF;omega
theorem xd6{n:Nat}(h:136<=n):gF n=gF (n-136):=by unfold gF;omega
theorem zF1{n:Nat}(h:n<136):gF n=135-n:=by unfold gF;omega
theorem zE9{a:List Int}(h:a.length<136):gO a=mU a:=by
 unfold gO mU;rw[zF1 h];obtain⟨k,b⟩:∃k,136-a.length=k+1:=⟨135-a.length,by omega⟩;rw[b,show 135-a.length=k by omega,List.replicate_succ];rw[lZ _ _ (dA _),Nat.sub_self];rfl
theorem xd2{a:List Int}(h:136<=a.length):gO a=a.take 136++gO (a.drop 136):=by
 unfold gO;rw[xd6 h,AB,<-iN,oZ]
theorem xc8{a:Int}(h:a=0\/a=6):orB a 128=xoB a 128:=by rcases h with rfl|rfl<;>decide+kernel
theorem xd4{a:List Int}(h:a.length<136):gH a=oD a:=by
 have c:=VQ h;unfold gH oD;rw[zE9 h,c];have f:(mU a).getD 135 0=0\/(mU a).getD 135 0=6:=by
  rw[<-zE9 h];unfold gO;rw[zF1 h,nV];by_cases e:a.length=135;·right;rw[fT (by omega)];simp[e]
  ·left;rw[fT (by omega)];obtain⟨k,b⟩:∃k,135-a.length=k+1:=⟨134-a.length,by omega⟩;rw[b,mM,List.getElem?_replicate];simp
 show(mU a).set 135 (orB ((mU a).getD 135 0) 128)=_;rw[xc8 f]
theorem xd5{a:List Int}(h:136<=a.length):gH a=a.take 136++gH (a.drop 136):=by
 have c:(gO (a.drop 136)).length≠0:=by rw[XI];omega
 have b:(a.take 136).length=136:=by simp;omega
 unfold gH;rw[xd2 h,bX,b];have e:136+(gO (a.drop 136)).length-1=136+((gO (a.drop 136)).length-1):=by omega
 rw[e,lZ _ _ (by omega),b,IA];congr 2;rw[nV,fT (by omega),b,IA,<-nV]
theorem xd3(a:List Int):(gH a).length=a.length+1+gF a.length:=by unfold gH;rw[rL,XI]
theorem zP2{b c:List Int}(f:b.length=25)(e:∀a∈b,inW a):CF b c=iX b c:=by
 unfold CF iX;exact(zG0 constL _ ⟨by rw[tH];exact f,SZ _ _ _ e⟩).1
theorem xq6{b c:List Int}(f:b.length=25)(e:∀a∈b,inW a):∀a∈iX b c,inW a:=(zG0 constL _ ⟨by rw[tH];exact f,SZ _ _ _ e⟩).2.2
theorem zM6:∀(N:Nat)(c b:List Int)(f:List (List (List AV))),c.length=25->(∀a∈c,inW a)->b.length<136*(N+1)->kG ((gH b).length/136) c (gH b)=qY (fN N c b f).1 (oD (fN N c b f).2.1)
 |N,c,b,f,i,k,j=>by
  by_cases g:b.length<136
  ·have e:fN N c b f=(c,b,f):=by cases N<;>simp[fN,g]
   rw[e,xd4 g,VR g];show kG 1 c (oD b)=qY c (oD b);simp only[kG];rw[zP2 i k];unfold iX qY;rw[pA (by rw[VR g];omega)]
  ·match N,j with
   |0,j=>omega|N+1,j=>
    have l:(b.take 136).length=136:=by simp;omega
    have e:fN (N+1) c b f=fN N (iX c b) (b.drop 136) (f++[aF b]):=by rw[fN,if_neg g]
    have o:=zM6 N (iX c b) (b.drop 136) (f++[aF b]) (by rw[ZC];exact i) (xq6 i k) (by simp;omega);rw[e,<-o,xd5 (by omega),bX,l];have n:(136+(gH (b.drop 136)).length)/136=(gH (b.drop 136)).length/136+1:=by omega
    rw[n];simp only[kG];rw[List.drop_left' l];have m:CF c (b.take 136++gH (b.drop 136))=iX c b:=by
     rw[zP2 i k];unfold iX;rw[List.take_left' l]
    rw[m]
theorem xy8:∀a∈zs25,inW a:=fun a b=>by
 have:a=0:=by simpa[zs25]using b
 subst this;exact⟨by omega,by omega⟩
theorem zQ1(d:Bs):RQ d=dsum d:=by
 unfold RQ dsum BO;rw[zM6 d.length zs25 (cF d) [] rfl xy8 (by simp[cF];omega)]
theorem xj9:∀k:Fin 64,an (IntKind.u64.wrap (k.val:Int)) 63=(k.val:Int)/\IntKind.u64.wrap (k.val:Int)=(k.val:Int)/\IntKind.i64.wrap (64-(k.val:Int))=64-(k.val:Int)/\IntKind.u64.wrap (64-(k.val:Int))=64-(k.val:Int):=by decide+kernel
def DD:List AV->Option AV:=F2 (fG .u64) eInt (fG .u64) fun x k=>if 0<=k/\k<64 then some (mX x k)else none
theorem xj8{G:Gam}:PW G Mc.c0 Rs.c0 Ks.c0 DD:=MG fun x k r h=>by
 split at h
 ·rename_i f;injection h with h;subst h;rw[aM];obtain⟨a,b,c,h4⟩:=xj9 ⟨k.toNat,by omega⟩;simp only[Int.toNat_of_nonneg f.1]at a b c h4;have e:mX x k=oo (sl x k) (sr x (64-k)):=by unfold mX;rw[a,h4]
  rw[e];have g:aW .shl (.u x) (.u k)=some (.u (sl x k)):=OF f.1;have i:aW .shr (.u x) (.u (64-k))=some (.u (sr x (64-k))):=OG (by omega);simp[Mc.c0,aC,Ks.c0,fG,eInt,Rs.c0,b,c,h4,g,i]
 ·cases h
theorem zE1{x y:Nat}(a:x<5)(b:y<5):offsL[x+5*y]?=some (offsL.getD (x+5*y) 0)/\0<=offsL.getD (x+5*y) 0/\offsL.getD (x+5*y) 0<64:=by
 have:∀i:Fin 25,offsL[i.val]?=some (offsL.getD i.val 0)/\0<=offsL.getD i.val 0/\offsL.getD i.val 0<64:=by decide
 exact this ⟨x+5*y,by omega⟩
def BS(k:IntKind)(l:List Int):List (List AV):=l.map fun n=>[AV.int k n]
def wZ:List AV->Option AV
 |[.n x,.n y]=>if 0<=x/\x<5/\0<=y/\y<5 then some (.n (offsL.getD (x.toNat+5*y.toNat) 0))else none|_=>none
theorem yR3{h:aA}{k:IntKind}{l:List Int}{i:Nat}{v:Int}(a:l[i]?=some v){k':IntKind}:bA 1 h (.sl (BS k l)) (.int k' i)=some (.fptr [.int k v] 0):=sC (by simp[BS,a]) rfl
theorem zv2{h:aA}{k:IntKind}{l:List Int}{i:Nat}{v:Int}(a:l[i]?=some v){k':IntKind}:bA 1 h (.tsl (BS k l)) (.int k' i)=some (.fptr [.int k v] 0):=by
 have:=yR3 (h:=h) (k:=k) a (k':=k');simpa[bA]using this
theorem xb2{G:Gam}:PW G Mc.c9 Rs.c9 Ks.c9 wZ:=by
 intro n r c;unfold wZ at c;split at c
 ·rename_i x y;split at c
  ·rename_i j;obtain⟨w,z,A,B⟩:=j;injection c with c;subst c;obtain⟨a,rfl⟩:∃a:Nat,x=a:=⟨x.toNat,by omega⟩;obtain⟨b,rfl⟩:∃b:Nat,y=b:=⟨y.toNat,by omega⟩;simp only[iG];obtain⟨e,_,_⟩:=zE1 (x:=a) (y:=b) (by omega) (by omega);generalize u:offsL.getD (a+5*b) 0=v at e⊢;obtain⟨p,o⟩:∃p:Nat,p=5*b:=⟨_,rfl⟩;obtain⟨q,t⟩:∃q:Nat,q=a+p:=⟨_,rfl⟩;have l:IntKind.i64.wrap (5*(b:Int))=(p:Int):=by rw[fO (by omega) (by omega)];omega
   have m:IntKind.i64.wrap ((a:Int)+(p:Int))=(q:Int):=by rw[fO (by omega) (by omega)];omega
   rw[show a+5*b=q by omega]at e;have k:aW .mul (.n 5) (.n (b:Int))=some (.n (p:Int)):=by simp only[aW,fS];simp[l]
   have f:∀i h,opV G i h (.bsl false 1) (some [.n 0,.n 1,.n 62,.n 28,.n 27,.n 36,.n 44,.n 6,.n 55,.n 20,.n 3,.n 10,.n 43,.n 25,.n 39,.n 41,.n 45,.n 15,.n 21,.n 8,.n 18,.n 2,.n 61,.n 56,.n 14])=some (.tsl (BS .i64 offsL),h):=fun i h=>by rw[kI rfl];rfl
   have g:=fun h=>zv2 (h:=h) (k:=.i64) (k':=.i64) e;rw[aM];generalize BS .i64 offsL=R at f g;simp[Mc.c9,aC,Ks.c9,f,k,m,g,cut,aE,aD,Rs.c9,-kI]
  ·cases c
 ·cases c
def GJ:List AV->Option AV
 |[.n i]=>if 0<=i/\i<24 then some (.u (constL.getD i.toNat 0))else none|_=>none
theorem yr7{i:Nat}(a:i<24):constL[i]?=some (constL.getD i 0):=by
 have:∀i:Fin 24,constL[i.val]?=some (constL.getD i.val 0):=by decide
 exact this ⟨i,a⟩
theorem yr8{G:Gam}:PW G Mc.dj Rs.dj Ks.dj GJ:=by
 intro i r b;unfold GJ at b;split at b
 ·rename_i x;split at b
  ·rename_i j;injection b with b;subst b;obtain⟨a,rfl⟩:∃a:Nat,x=a:=⟨x.toNat,by omega⟩;simp only[iG];have c:=yr7 (i:=a) (by omega);generalize constL.getD a 0=v at c⊢;have e:∀g h,opV G g h (.bsl false 1) (some [.u 1,.u 32898,.u 9223372036854808714,.u 9223372039002292224,.u 32907,.u 2147483649,.u 9223372039002292353,.u 9223372036854808585,.u 138,.u 136,.u 2147516425,.u 2147483658,.u 2147516555,.u 9223372036854775947,.u 9223372036854808713,.u 9223372036854808579,.u 9223372036854808578,.u 9223372036854775936,.u 32778,.u 9223372039002259466,.u 9223372039002292353,.u 9223372036854808704,.u 2147483649,.u 9223372039002292232])=some (.tsl (BS .u64 constL),h):=fun g h=>by rw[kI rfl];rfl
   have f:=fun h=>zv2 (h:=h) (k:=.u64) (k':=.i64) c;rw[aM];generalize BS .u64 constL=R at e f;simp[Mc.dj,aC,Ks.dj,e,f,cut,aE,aD,Rs.dj,-kI]
  ·cases b
 ·cases b
abbrev rfr(l:List Int)(c:Int)(g i j k a b e f:AV):List (Nat×AV):=[(0,.agg (wd l)),(1,.u c),(2,.ptr 0 0),(4,.ptr 1 0),(5,.ptr 2 0),(6,g),(7,i),(8,j),(9,k),(10,a),(11,b),(12,e),(13,f)]
abbrev g3(b z a:List Int):aA:=[.cells (wd b),.cells (wd z),.cells (wd a)]
abbrev g4(c z a b:List Int):aA:=[.cells (wd c),.cells (wd z),.cells (wd a),.cells (wd b)]
abbrev g5(c z a b o:List Int):aA:=[.cells (wd c),.cells (wd z),.cells (wd a),.cells (wd b),.cells (wd o)]
theorem zK6(G:Gam)(a z:List Int)(L:a.length=25)(c:Int){ks:List MK}{Q:aY}:∀(n x:Nat)(b:List Int),n+x=5->b.length=5->(∀H,exM G .normal ks Q H (rfr a c (.n 5) .junk .junk .junk .junk .junk .junk .junk) (g3 a z (pW a n x b)))->cY G [] Mc.am_L0 3 (.blk 0::ks) Q (rfr a c (.n x) .junk .junk .junk .junk .junk .junk .junk) (g3 a z b)
 |0,x,b,K,F,j=>by
  have e:x=5:=by omega
  subst e;refine aJ (Mc.am_L0.eq_1) ?_;rw[aQ (n:=3) rfl];have:=j;simp only[pW]at this;simp;simpa using this _|n+1,x,b,K,F,j=>by
  have J:ltB x 5=true:=aO.2 (by omega);have M:=dT (i:=x) (by unfold big;omega);obtain⟨o,h5⟩:∃p:Nat,p=x+5:=⟨_,rfl⟩;obtain⟨k,C⟩:∃p:Nat,p=x+10:=⟨_,rfl⟩;obtain⟨l,D⟩:∃p:Nat,p=x+15:=⟨_,rfl⟩;obtain⟨m,E⟩:∃p:Nat,p=x+20:=⟨_,rfl⟩;simp only[pW,<-h5,<-C,<-D,<-E]at j;have S:IntKind.i64.wrap ((x:Int)+5)=(o:Int):=by rw[fO (by omega) (by omega)];omega
  have N:IntKind.i64.wrap ((x:Int)+10)=(k:Int):=by rw[fO (by omega) (by omega)];omega
  have O:IntKind.i64.wrap ((x:Int)+15)=(l:Int):=by rw[fO (by omega) (by omega)];omega
  have P:IntKind.i64.wrap ((x:Int)+20)=(m:Int):=by rw[fO (by omega) (by omega)];omega
  have f:=fun(i:Nat)(I:i<25)r h=>iV (G:=G) (s:=r) (h:=h) (len:=25) (size:=1) (l:=0) (off:=0) (i:=i) (k:=.i64) I (by decide);have a0:=f x (by omega);have a5:=f o (by omega);have a10:=f k (by omega);have a15:=f l (by omega);have a20:=f m (by omega);have t:=fun r h=>iV (G:=G) (s:=r) (h:=h) (len:=5) (size:=1) (l:=2) (off:=0) (i:=x) (k:=.i64) (by omega) (by decide);have u:=jV (jN (cs:=a) (i:=x) (by omega));have B:=jV (jN (cs:=a) (i:=o) (by omega));have w:=jV (jN (cs:=a) (i:=k) (by omega));have y:=jV (jN (cs:=a) (i:=l) (by omega));have A:=jV (jN (cs:=a) (i:=m) (by omega));have q:=fun v=>uL (h:=g3 a z b) (l:=2) (off:=x) (vs:=wd b) (k:=.u64) (n:=v) rfl (by simp;omega);simp only[uJ]at q;have g:=zK6 G a z L c n (x+1) _ (by omega) (by rw[rL];exact F) j;generalize a.getD x 0=T at u g;generalize a.getD o 0=X at B g;generalize a.getD k 0=U at w g;generalize a.getD l 0=V at y g;generalize a.getD m 0=W at A g;simp only[eR,mB,List.set]at a0 a5 a10 a15 a20 t q;clear f h5 C D E;refine aJ (Mc.am_L0.eq_1) ?_;rw[aQ (n:=3) rfl];simp[J,S,N,O,P,a0,a5,a10,a15,a20,t,u,B,w,y,A,q,M,-bB];refine cZ ?_;rw[aQ (n:=3) rfl];simpa[rfr,g3,wd]using g
theorem zK5{G:Gam}(b:G Fn.c0=some (.pure DD)){a k:Int}(c:0<=k/\k<64)(e:Bool)(h:aA):opV G e h (.call Fn.c0) (some [.u a,.n k])=some (.u (mX a k),h):=bF b rfl (MH (A:=fG .u64) (B:=eInt) (R:=fG .u64) (x:=a) (y:=k) (if_pos c)) (.inl rfl)
theorem xb0{G:Gam}(a:G Fn.c9=some (.pure wZ)){x y:Nat}(c:x<5)(e:y<5)(b:Bool)(h:aA):opV G b h (.call Fn.c9) (some [.n x,.n y])=some (.n (offsL.getD (x+5*y) 0),h):=bF a (us:=[.n x,.n y]) rfl (by simp only[wZ,iG];exact if_pos ⟨by omega,by omega,by omega,by omega⟩) (.inl rfl)
theorem zK8(G:Gam)(B:G Fn.c0=some (.pure DD))(A:G Fn.c9=some (.pure wZ))(a z f:List Int)(Y:a.length=25)(c d:Int)(x:Nat)(l:x<5){ks:List MK}{Q:aY}:∀(n y:Nat)(b:List Int),n+y=5->b.length=25->(∀O,exM G .normal ks Q O (rfr a c (.n 5) (.ptr 3 0) (.n x) (.u d) (.n 5) .junk .junk .junk) (g4 a z f (vV a d x n y b)))->cY G [] Mc.am_L2 4 (.blk 4::ks) Q (rfr a c (.n 5) (.ptr 3 0) (.n x) (.u d) (.n y) .junk .junk .junk) (g4 a z f b)
 |0,y,b,X,C,g=>by
  have e:y=5:=by omega
  subst e;refine aJ (Mc.am_L2.eq_1) ?_;rw[aQ (n:=4) rfl];have:=g;simp only[vV]at this;simp;simpa using this _|n+1,y,b,X,C,g=>by
  have W:ltB y 5=true:=aO.2 (by omega);have Z:=dT (i:=y) (by unfold big;omega);obtain⟨r,E,d1,F⟩:=pO (2*x+3*y);obtain⟨p,D⟩:∃p:Nat,p=y+5*r:=⟨_,rfl⟩;obtain⟨q,k⟩:∃q:Nat,q=x+5*y:=⟨_,rfl⟩;obtain⟨_,o,t⟩:=zE1 l (show y<5 by omega);simp only[vV,<-E,<-D,<-k]at g;have j:=xb0 (G:=G) A l (show y<5 by omega);rw[<-k]at j o t;have H:aW .mul (.n 2) (.n (x:Int))=some (.n ((2*x:Nat):Int)):=by simp only[aW,fS];simp;rw[fO (by omega) (by omega)]
  have I:aW .mul (.n 3) (.n (y:Int))=some (.n ((3*y:Nat):Int)):=by simp only[aW,fS];simp;rw[fO (by omega) (by omega)]
  have i:aW .add (.n ((2*x:Nat):Int)) (.n ((3*y:Nat):Int))=some (.n ((2*x+3*y:Nat):Int)):=by rw[LA,fO (by omega) (by omega)];congr 2
  have J:aW .mul (.n 5) (.n (r:Int))=some (.n ((5*r:Nat):Int)):=by simp only[aW,fS];simp;rw[fO (by omega) (by omega)]
  have L:aW .add (.n (y:Int)) (.n ((5*r:Nat):Int))=some (.n (p:Int)):=by rw[LA,fO (by omega) (by omega)];congr 2;omega
  have K:aW .mul (.n 5) (.n (y:Int))=some (.n ((5*y:Nat):Int)):=by simp only[aW,fS];simp;rw[fO (by omega) (by omega)]
  have M:aW .add (.n (x:Int)) (.n ((5*y:Nat):Int))=some (.n (q:Int)):=by rw[LA,fO (by omega) (by omega)];congr 2;omega
  have a0:=fun v h=>iV (G:=G) (s:=v) (h:=h) (len:=25) (size:=1) (l:=0) (off:=0) (i:=q) (k:=.i64) (by omega) (by decide);have a1:=fun v h=>iV (G:=G) (s:=v) (h:=h) (len:=25) (size:=1) (l:=3) (off:=0) (i:=p) (k:=.i64) (by omega) (by decide);have w:=jV (jN (cs:=a) (i:=q) (by omega));have u:=fun b1=>uL (h:=g4 a z f b) (l:=3) (off:=p) (vs:=wd b) (k:=.u64) (n:=b1) rfl (by simp;omega);simp only[uJ]at u;have m:=zK8 G B A a z f Y c d x l n (y+1) _ (by omega) (by rw[rL];exact C) g;generalize a.getD q 0=v0 at w m;generalize offsL.getD q 0=vo at j o t m;have N:=zK5 (G:=G) B (a:=xo v0 d) (k:=vo) ⟨o,t⟩;simp only[eR,mB,List.set]at a0 a1 u;generalize P:((2*x:Nat):Int)=b2 at H i;generalize S:((3*y:Nat):Int)=b3 at I i;generalize T:((2*x+3*y:Nat):Int)=c1 at i F;generalize U:((5*r:Nat):Int)=c2 at J L;generalize V:((5*y:Nat):Int)=c3 at K M;clear P S T U V D k E;refine aJ (Mc.am_L2.eq_1) ?_;rw[aQ (n:=4) rfl];simp[W,H,I,i,F,J,L,K,M,a0,a1,w,j,N,u,-LA,-bB];refine cZ ?_;rw[aQ (n:=4) rfl];simpa[rfr,g4,wd,Z]using m
theorem zK7(G:Gam)(l:G Fn.c0=some (.pure DD))(D:G Fn.c9=some (.pure wZ))(g z f:List Int)(H:g.length=25)(L:f.length=5)(c:Int){ks:List MK}{Q:aY}:∀(n x:Nat)(i:List Int)(k j:AV),n+x=5->i.length=25->(∀C,exM G .normal ks Q C (rfr g c (.n 5) (.ptr 3 0) (.n 5) .junk .junk .junk .junk .junk) (g4 g z f (pJ g f n x i)))->cY G [9,10] Mc.am_L1 4 (.blk 2::ks) Q (rfr g c (.n 5) (.ptr 3 0) (.n x) k j .junk .junk .junk) (g4 g z f i)
 |0,x,i,k,j,O,m,b=>by
  have e:x=5:=by omega
  subst e;refine aJ (Mc.am_L1.eq_1) ?_;rw[aQ (n:=4) rfl];have:=b;simp only[pJ]at this;simp;simpa using this _|n+1,x,i,k,j,O,m,b=>by
  have N:ltB x 5=true:=aO.2 (by omega);have P:=dT (i:=x) (by unfold big;omega);obtain⟨v,V,U,F⟩:=pO (x+4);obtain⟨u,T,S,E⟩:=pO (x+1);simp only[pJ,<-V,<-T]at b;have J:IntKind.i64.wrap ((x:Int)+4)=((x+4:Nat):Int):=fO (by omega) (by omega);have t:IntKind.i64.wrap ((x:Int)+1)=((x+1:Nat):Int):=fO (by omega) (by omega);have a1:=fun p h=>iV (G:=G) (s:=p) (h:=h) (len:=5) (size:=1) (l:=2) (off:=0) (i:=v) (k:=.i64) U (by decide);have a2:=fun p h=>iV (G:=G) (s:=p) (h:=h) (len:=5) (size:=1) (l:=2) (off:=0) (i:=u) (k:=.i64) S (by decide);have A:=jV (jN (cs:=f) (i:=v) (by omega));have B:=jV (jN (cs:=f) (i:=u) (by omega));have K:=fun a=>zK5 (G:=G) l (a:=a) (k:=1) ⟨by omega,by omega⟩;have w:=fun ks Q d b=>zK8 G l D g z f H c d x (by omega) (ks:=ks) (Q:=Q) 5 0 i (by omega) m b;have I:=fun d k j b=>zK7 G l D g z f H L c (ks:=ks) (Q:=Q) n (x+1) (vV g d x 5 0 i) k j (by omega) (by rw[WK];exact m) b;generalize f.getD v 0=r at A b;generalize f.getD u 0=q at B b;have o:=fun k j=>I (xo r (mX q 1)) k j b;have y:=fun ks Q=>w ks Q (xo r (mX q 1));clear I w b;generalize vV g (xo r (mX q 1)) x 5 0 i=Y at o y;simp only[eR,mB]at a1 a2;generalize x+4=W at J F;obtain⟨X,M⟩:∃d:Nat,d=x+1:=⟨_,rfl⟩;rw[<-M]at t E P o;refine aJ (Mc.am_L1.eq_1) ?_;rw[aQ (n:=4) rfl];simp[N,J,t,F,E,a1,a2,A,B,K];refine y _ _ (fun C=>?_);simp[t];refine cZ ?_;rw[aQ (n:=4) rfl];simpa[rfr,g4,wd]using o .junk .junk
set_option maxHeartbeats 1000000 in theorem zL0(G:Gam)(g z i a:List Int)(S:a.length=25)(c:Int)(x:Nat)(W:x<5)(t r:AV){ks:List MK}{Q:aY}:∀(n y:Nat)(b:List Int),n+y=5->b.length=25->(∀O,exM G .normal ks Q O (rfr g c (.n 5) (.ptr 3 0) (.n 5) t r (.ptr 4 0) (.n x) (.n 5)) (g5 g z i a (wA a x n y b)))->cY G [] Mc.am_L4 5 (.blk 8::ks) Q (rfr g c (.n 5) (.ptr 3 0) (.n 5) t r (.ptr 4 0) (.n x) (.n y)) (g5 g z i a b)
 |0,y,b,T,B,j=>by
  have e:y=5:=by omega
  subst e;refine aJ (Mc.am_L4.eq_1) ?_;rw[aQ (n:=5) rfl];have:=j;simp only[wA]at this;simp;simpa using this _|n+1,y,b,T,B,j=>by
  have P:ltB y 5=true:=aO.2 (by omega);have V:=dT (i:=y) (by unfold big;omega);obtain⟨M,I,b2,F⟩:=pO (x+1);obtain⟨N,J,b3,H⟩:=pO (x+2);obtain⟨q,C⟩:∃q:Nat,q=x+5*y:=⟨_,rfl⟩;obtain⟨m,D⟩:∃q:Nat,q=M+5*y:=⟨_,rfl⟩;obtain⟨o,E⟩:∃q:Nat,q=N+5*y:=⟨_,rfl⟩;simp only[wA,<-I,<-J,<-C,<-D,<-E]at j;have K:IntKind.i64.wrap ((x:Int)+1)=((x+1:Nat):Int):=fO (by omega) (by omega);have L:IntKind.i64.wrap ((x:Int)+2)=((x+2:Nat):Int):=fO (by omega) (by omega);obtain⟨l,U⟩:∃p:Nat,p=5*y:=⟨_,rfl⟩;have X:aW .mul (.n 5) (.n (y:Int))=some (.n (l:Int)):=by simp only[aW,fS];simp;rw[fO (by omega) (by omega)];omega
  have Y:IntKind.i64.wrap ((x:Int)+(l:Int))=(q:Int):=by rw[fO (by omega) (by omega)];omega
  have Z:IntKind.i64.wrap ((M:Int)+(l:Int))=(m:Int):=by rw[fO (by omega) (by omega)];omega
  have s3:IntKind.i64.wrap ((N:Int)+(l:Int))=(o:Int):=by rw[fO (by omega) (by omega)];omega
  have a0:=fun f h=>iV (G:=G) (s:=f) (h:=h) (len:=25) (size:=1) (l:=3) (off:=0) (i:=q) (k:=.i64) (by omega) (by decide);have a1:=fun f h=>iV (G:=G) (s:=f) (h:=h) (len:=25) (size:=1) (l:=3) (off:=0) (i:=m) (k:=.i64) (by omega) (by decide);have a2:=fun f h=>iV (G:=G) (s:=f) (h:=h) (len:=25) (size:=1) (l:=3) (off:=0) (i:=o) (k:=.i64) (by omega) (by decide);have a3:=fun f h=>iV (G:=G) (s:=f) (h:=h) (len:=25) (size:=1) (l:=4) (off:=0) (i:=q) (k:=.i64) (by omega) (by decide);have v:=jV (jN (cs:=a) (i:=q) (by omega));have w:=jV (jN (cs:=a) (i:=m) (by omega));have A:=jV (jN (cs:=a) (i:=o) (by omega));have u:=fun b1=>uL (h:=g5 g z i a b) (l:=4) (off:=q) (vs:=wd b) (k:=.u64) (n:=b1) rfl (by simp;omega);simp only[uJ]at u;have k:=zL0 G g z i a S c x W t r n (y+1) _ (by omega) (by rw[rL];exact B) j;generalize a.getD q 0=v0 at v k;generalize a.getD m 0=v1 at w k;generalize a.getD o 0=v2 at A k;simp only[eR,mB,List.set]at a0 a1 a2 a3 u;generalize x+1=d1 at K F;generalize x+2=d2 at L H;clear C D E U I J;refine aJ (Mc.am_L4.eq_1) ?_;rw[aQ (n:=5) rfl];simp[P,K,L,X,Y,Z,s3,F,H,a0,a1,a2,a3,v,w,A,u,V,zR9,-CM,-bB];refine cZ ?_;rw[aQ (n:=5) rfl];simpa[rfr,g5,wd]using k
theorem zK9(G:Gam)(g z j b:List Int)(q:b.length=25)(c:Int)(l k:AV){ks:List MK}{Q:aY}:∀(n x:Nat)(a:List Int)(i:AV),n+x=5->a.length=25->(∀p,exM G .normal ks Q p (rfr g c (.n 5) (.ptr 3 0) (.n 5) l k (.ptr 4 0) (.n 5) .junk) (g5 g z j b (pM b n x a)))->cY G [13] Mc.am_L3 5 (.blk 6::ks) Q (rfr g c (.n 5) (.ptr 3 0) (.n 5) l k (.ptr 4 0) (.n x) i) (g5 g z j b a)
 |0,x,a,i,u,m,f=>by
  have e:x=5:=by omega
  subst e;refine aJ (Mc.am_L3.eq_1) ?_;rw[aQ (n:=5) rfl];have:=f;simp only[pM]at this;simp;simpa using this _|n+1,x,a,i,u,m,f=>by
  have t:ltB x 5=true:=aO.2 (by omega);have v:=dT (i:=x) (by unfold big;omega);simp only[pM]at f;have o:=fun ks Q f=>zL0 G g z j b q c x (by omega) l k (ks:=ks) (Q:=Q) 5 0 a (by omega) m f;have r:=fun i=>zK9 G g z j b q c l k n (x+1) (wA b x 5 0 a) i (by omega) (by rw[XG];exact m) f;clear f;generalize wA b x 5 0 a=w at r o;refine aJ (Mc.am_L3.eq_1) ?_;rw[aQ (n:=5) rfl];simp[t];refine o _ _ (fun p=>?_);simp[v];refine cZ ?_;rw[aQ (n:=5) rfl];simpa[rfr,g5,wd]using r .junk
def SW:List AV->Option AV:=F2 (jA rW) (fG .u64) (jA rW) fun a c=>if a.length=25 then some (lR a c)else none
theorem zL1(a:List Int)(c:Int):(lR a c).length=25:=by simp[lR,XH]
theorem xk3{G:Gam}(P:G Fn.c0=some (.pure DD))(O:G Fn.c9=some (.pure wZ)):PW G Mc.am Rs.am Ks.am SW:=MG fun a c r h=>by
 split at h
 ·rename_i o;injection h with h;subst h;rw[aM];simp only[PI];obtain⟨z,q⟩:∃z,z=List.replicate 25 (0:Int):=⟨_,rfl⟩;obtain⟨y,p⟩:∃y,y=List.replicate 5 (0:Int):=⟨_,rfl⟩;have T:zz25=wd z:=by rw[q];rfl
  have U:[AV.int .u64 0,.u 0,.u 0,.u 0,.u 0]=wd y:=by rw[p];rfl
  have i:z.length=25:=by rw[q];simp
  have K:y.length=5:=by rw[p];simp
  have J:lR a c=(pM (pJ a (pW a 5 0 y) 5 0 z) 5 0 z).set 0 (xo ((pM (pJ a (pW a 5 0 y) 5 0 z) 5 0 z).getD 0 0) c):=by simp only[lR,<-q,<-p]
  rw[J];clear J;have t:=fun j Q g=>zK6 G a z o c (ks:=j) (Q:=Q) 5 0 y (by omega) K g;have E:(pW a 5 0 y).length=5:=by rw[zP9];exact K
  generalize pW a 5 0 y=f at t E⊢;have u:=fun j Q g=>zK7 G P O a z f o E c (ks:=j) (Q:=Q) 5 0 z .junk .junk (by omega) i g;have H:(pJ a f 5 0 z).length=25:=by rw[zC3];exact i
  generalize pJ a f 5 0 z=k at u H⊢;have w:=fun j Q g=>zK9 G a z f k H c .junk .junk (ks:=j) (Q:=Q) 5 0 z .junk (by omega) i g;have I:(pM k 5 0 z).length=25:=by rw[XH];exact i
  generalize pM k 5 0 z=m at w I⊢;have C:=jV (jN (cs:=m) (i:=0) (by omega));have x:=fun v=>uL (h:=g5 a z f k m) (l:=4) (off:=0) (vs:=wd m) (k:=.u64) (n:=v) rfl (by simp;omega);simp only[uJ]at x;have a0:∀l h,opV G l h (.aadr 25 1) (some [.ptr 4 0,.n 0])=some (.ptr 4 0,h):=fun l h=>by simpa using iV (G:=G) (s:=l) (h:=h) (len:=25) (size:=1) (l:=4) (off:=0) (i:=0) (k:=.i64) (by omega) (by decide)
  generalize m.getD 0 0=M at C x⊢;obtain⟨b,F⟩:∃b,b=m.set 0 (xo M c):=⟨_,rfl⟩;have n:b.length=25:=by rw[F];simpa using I
  have A:=x (xo M c);rw[<-F]at A⊢;have L:=nP (h:=g5 a z f k b) (l:=1) (vs:=wd z) (us:=wd b) rfl (by simpa using i) (by simpa using n) (by omega) (pB (fun _=>rfl) b);have B:=fun l h=>sI (G:=G) (s:=l) (h:=h) (v:=.agg (wd a)) (by intro e;have:=congrArg List.length e;simp[AV.cells,o]at this);have k2:=xV (vs:=wd b) (n:=25) (by simpa using n);have S:aE true 25 (wd b)=some (.agg (wd b)):=by simp[aE,n]
  have N:(AV.agg (wd a)).cells=wd a:=rfl;simp only[N]at B;simp only[List.set]at A L;simp only[Mc.am,T];simp only[U];simp[rfr,g3]at t;simp[rfr,g4]at u;simp[rfr,g5]at w;simp only[wd]at*;simp[aC,Ks.am,fG,B];refine t _ _ (fun D=>?_);simp;refine u _ _ (fun D=>?_);simp;refine w _ _ (fun D=>?_);simp[a0,C,A,L,k2,S,Rs.am,-bB]
 ·cases h
def DC:List AV->Option AV:=F1 (jA rW) (jA rW) fun a=>if a.length=25 then some (fX lR a constL)else none
abbrev pfr(a:List Int)(i:AV):List (Nat×AV):=[(0,.agg (wd a)),(1,.ptr 0 0),(2,.ptr 1 0),(3,i)]
abbrev ph(a z:List Int):aA:=[.cells (wd a),.cells (wd z)]
theorem zF8(G:Gam)(f:List Int->Int->List Int)(t:∀a c,(f a c).length=25)(q:∀a c,a.length=25->∀b h,opV G b h (.call Fn.am) (some [.agg (wd a),.u c])=some (.agg (wd (f a c)),h))(j:List Int)(y:j.length=24)(p:∀(i:Nat)c,j[i]?=some c->∀b h,opV G b h (.call Fn.dj) (some [.n i])=some (.u c,h))(b z:List Int){ks:List MK}{Q:aY}:∀(l:List Int)(i:Nat)(a:List Int),j.drop i=l->i<=24->a.length=25->(∀x,exM G .normal ks Q x (pfr b (.n 24)) (ph (fX f a l) z))->cY G [] Mc.br_L0 2 (.blk 0::ks) Q (pfr b (.n i)) (ph a z)
 |[],i,a,m,A,g,k=>by
  have C:=drop_nil m;have e:i=24:=by omega
  subst e;refine aJ (Mc.br_L0.eq_1) ?_;rw[aQ (n:=2) rfl];have:=k;simp only[fX]at this;simp;simpa using this _|c::l,i,a,m,A,g,k=>by
  obtain⟨C,E,F⟩:=eT m;have I:i<24:=by omega
  have B:ltB i 24=true:=aO.2 (by omega);have D:=dT (i:=i) (by unfold big;omega);have o:=q a c g;have w:=p i c E;have n:=t a c;simp only[fX]at k;have u:=zF8 G f t q j y p b z l (i+1) (f a c) F (by omega) n k;have k1:=xV (vs:=wd a) (n:=25) (by simpa using g);have H:aE true 25 (wd a)=some (.agg (wd a)):=by simp[aE,g]
  generalize f a c=r at o n u;have v:=nP (h:=ph a z) (l:=0) (vs:=wd a) (us:=wd r) rfl (by simpa using g) (by simpa using n) (by omega) (pB (fun _=>rfl) r);simp only[List.set]at v;refine aJ (Mc.br_L0.eq_1) ?_;rw[aQ (n:=2) rfl];simp[B,k1,H,o,w,v,D,-bB];refine cZ ?_;rw[aQ (n:=2) rfl];simpa[pfr]using u
theorem xe2{G:Gam}(f:List Int->Int->List Int)(o:∀a c,(f a c).length=25)(u:∀a c,a.length=25->∀g h,opV G g h (.call Fn.am) (some [.agg (wd a),.u c])=some (.agg (wd (f a c)),h))(b:List Int)(w:b.length=24)(t:∀(i:Nat)c,b[i]?=some c->∀g h,opV G g h (.call Fn.dj) (some [.n i])=some (.u c,h))(a:List Int)(k:a.length=25):goM G Mc.br [] (aD Rs.br (.agg (wd (fX f a b)))) [] (aC Ks.br [.agg (wd a)]) []:=by
 obtain⟨z,p⟩:∃z,z=List.replicate 25 (0:Int):=⟨_,rfl⟩;have D:zz25=wd z:=by rw[p];rfl
 have y:z.length=25:=by rw[p];simp
 have l:=fun B Q x=>zF8 G f o u b w t a z (ks:=B) (Q:=Q) b 0 a rfl (by omega) k x;have j:(fX f a b).length=25:=by
  have:∀(r a:List Int),a.length=25->(fX f a r).length=25:=by
   intro r;induction r with
   |nil=>intro a h;exact h|cons c r A=>intro a _;exact A _ (o a c)
  exact this b a k
 generalize fX f a b=m at l j⊢;have q:=nP (h:=ph m z) (l:=1) (vs:=wd z) (us:=wd m) rfl (by simpa using y) (by simpa using j) (by omega) (pB (fun _=>rfl) m);have n:=fun g h=>sI (G:=G) (s:=g) (h:=h) (v:=.agg (wd a)) (by intro e;have:=congrArg List.length e;simp[AV.cells,k]at this);have k2:=xV (vs:=wd m) (n:=25) (by simpa using j);have C:aE true 25 (wd m)=some (.agg (wd m)):=by simp[aE,j]
 have v:(AV.agg (wd a)).cells=wd a:=rfl;simp only[v]at n;simp only[List.set]at q;simp only[Mc.br,D];simp[pfr,ph]at l;simp only[wd]at*;simp[aC,Ks.br,n];refine l _ _ (fun E=>?_);simp[q,k2,C,Rs.br,-bB]
theorem xe3{G:Gam}(o:G Fn.am=some (.pure SW))(n:G Fn.dj=some (.pure GJ)):PW G Mc.br Rs.br Ks.br DC:=mK fun a r h=>by
 split at h
 ·rename_i e;injection h with h;subst h;rw[aM];have l:∀a c,a.length=25->∀b h,opV G b h (.call Fn.am) (some [.agg (wd a),.u c])=some (.agg (wd (lR a c)),h):=fun a c e b h=>by
   have j:=MH (A:=jA rW) (B:=fG .u64) (R:=jA rW) (f:=fun a c=>if a.length=25 then some (lR a c)else none) (x:=a) (y:=c) (r:=lR a c) (if_pos e);generalize lR a c=r at j⊢;exact bF o (us:=[.agg (wd a),.u c]) (by simp) j (.inr (by simp[owns,dX]))
  have k:∀(i:Nat)c,constL[i]?=some c->∀b h,opV G b h (.call Fn.dj) (some [.n i])=some (.u c,h):=fun i c g b h=>by
   have p:i<24:=by have:=(aV.1 g).1;have:=TY;omega
   refine bF n (us:=[.n i]) rfl ?_ (.inl rfl);simp only[GJ,iG];rw[if_pos ⟨by omega,by omega⟩,nV,g];rfl
  have f:=xe2 lR zL1 l constL TY k a e;generalize fX lR a constL=m at f⊢;simp only[PI];exact f
 ·cases h
theorem zJ1(i:Nat):∃x:Nat,x=i%136/\aW .rem (.n i) (.n 136)=some (.n x):=by
 refine⟨i%136,rfl,?_⟩;have e:((i:Int).tmod 136)=((i%136:Nat):Int):=by rw[NV (by omega)];omega
 simp only[aW,fS];simp[e]
abbrev sfr(s:Bs)(v L:Nat)(a b c e f:AV):List (Nat×AV):=[(0,.str s),(2,.str []),(3,.own 0 v L),(4,a),(5,b),(6,c),(7,e),(8,f)]
theorem zP5(G:Gam)(s:Bs)(u:s.length<=100000000){ks:List MK}{Q:aY}(e:∀p,exM G .normal ks Q p (sfr s (1+gF s.length) (s.length+1+gF s.length) .junk .junk .junk .junk .junk) [.arr 1 (1+gF s.length) (aF (gO (cF s))) true]):∀(m j:Nat),j+m=gF s.length->cY G [] Mc.aw_L0 1 (.blk 0::ks) Q (sfr s (1+j) (s.length+1+j) .junk .junk .junk .junk .junk) [.arr 1 (1+j) (aF (cF s++6::List.replicate j 0)) true]
 |0,j,k=>by
  obtain rfl:j=gF s.length:=by omega
  obtain⟨x,l,a⟩:=zJ1 (s.length+1+gF s.length);have r:=zF0 s.length;have o:x=0:=by omega
  subst o;have y:cF s++6::List.replicate (gF s.length) 0=gO (cF s):=by unfold gO;rw[show(cF s).length=s.length by simp[cF]]
  rw[y];generalize s.length+1+gF s.length=L at a e⊢;have q:eqB ((0:Nat):Int) 0=true:=rfl;refine aJ (Mc.aw_L0.eq_1) ?_;rw[aQ (n:=1) rfl];have g:∀h,aI h 1 (.own 0 (1+gF s.length) L)=some (.n (L:Int)):=fun h=>rfl;simp[g,a,-aI];exact e _|m+1,j,k=>by
  obtain⟨x,l,a⟩:=zJ1 (s.length+1+j);have r:x≠0:=by rw[l];unfold gF at k;omega
  have q:eqB (x:Int) 0=false:=eU.2 (by omega);have b:=zP5 G s u e m (j+1) (by omega);have z:gF s.length<136:=by unfold gF;omega
  have f:(aF (cF s++6::List.replicate j 0)).length=s.length+1+j:=by simp[aF,cF];omega
  have w:aF (cF s++6::List.replicate (j+1) 0)=aF (cF s++6::List.replicate j 0)++[[.int .u8 0]]:=by
   have:List.replicate (j+1) (0:Int)=List.replicate j 0++[0]:=by rw[<-List.replicate_append_replicate];rfl
   rw[this];simp[aF]
  rw[w,show s.length+1+(j+1)=s.length+1+j+1 by omega,show 1+(j+1)=1+j+1 by omega]at b;have t:s.length+1+j<=1000000000:=by omega
  generalize s.length+1+j=L at a f b t⊢;generalize 1+j=v at b⊢;generalize aF (cF s++6::List.replicate j 0)=R at f b⊢;have i:=fun c=>QX (G:=G) (s:=c) (h:=[.arr 1 v R true]) (n:=1) (b:=1) (l:=0) (ver:=v) (k:=L) (x:=.tsl [[.int .u8 0]]) (new:=[[.int .u8 0]]) (rows:=R) rfl rfl f.symm rfl (by simp) (by simp[bT];omega) (by simp[bT];omega);simp only[vE,List.set]at i;have g:∀h,aI h 1 (.own 0 v L)=some (.n (L:Int)):=fun h=>rfl;have n:∀c h,opV G c h (.bsl false 1) (some [.int .u8 0])=some (.tsl [[.int .u8 0]],h):=fun c h=>by rw[kI rfl];rfl
  refine aJ (Mc.aw_L0.eq_1) ?_;rw[aQ (n:=1) rfl];simp[g,a,q,n,i,-aI,-kI];refine cZ ?_;rw[aQ (n:=1) rfl];simpa[sfr]using b
theorem byte_at{P:List Int}{a i:Nat}{b:Int}(h:((P.drop a).take 136)[i]?=some b):P[a+i]?=some b:=by
 rw[fZ]at h;split at h;·rwa[nW]at h
 ·cases h
theorem zP7(G:Gam)(s:Bs)(v L:Nat)(P:List Int)(y:P.length=L)(F:L<=1000000000)(a:Nat)(H:a+136<=L)(n o:AV){ks:List MK}{Q:aY}:∀(j:List Int)(i:Nat)(c:List Int),((P.drop a).take 136).drop i=j->i<=136->c.length=25->(∀E,exM G .normal ks Q E (sfr s v L (.ptr 1 0) (.n a) (.n 136) n o) [.arr 1 v (aF P) true,.cells (wd (iM c i j))])->cY G [] Mc.aw_L2 2 (.blk 4::ks) Q (sfr s v L (.ptr 1 0) (.n a) (.n i) n o) [.arr 1 v (aF P) true,.cells (wd c)]
 |[],i,c,t,I,z,f=>by
  have K:=drop_nil t;have M:((P.drop a).take 136).length=136:=by simp;omega
  have e:i=136:=by omega
  subst e;have:=f;simp only[iM]at this;have q:ltB 136 136=false:=rfl;refine aJ (Mc.aw_L2.eq_1) ?_;rw[aQ (n:=2) rfl];simp;simpa using this _|b::j,i,c,t,I,z,f=>by
  obtain⟨K,W,X⟩:=eT t;have M:((P.drop a).take 136).length=136:=by simp;omega
  have J:ltB i 136=true:=aO.2 (by omega);have V:=dT (i:=i) (by unfold big;omega);obtain⟨q,U,T⟩:=RK (i:=i) (by omega);obtain⟨m,N,b1,O⟩:=RM i;simp only[iM,<-U,<-N]at f;have r:=byte_at W;obtain⟨p,S⟩:∃p:Nat,p=a+i:=⟨_,rfl⟩;rw[<-S]at r;have w0:IntKind.i64.wrap ((a:Int)+(i:Int))=(p:Int):=by rw[i64_in _ ⟨by omega,by omega⟩];omega
  have Y:aW .mul (.n 8) (.n (m:Int))=some (.n (8*(m:Int))):=by simp only[aW,fS];simp;rw[fO (by omega) (by omega)]
  have w1:IntKind.u64.wrap (8*(m:Int))=8*(m:Int):=ZU ⟨by omega,by omega⟩;have x:=OF (a:=IntKind.u64.wrap b) (b:=8*(m:Int)) (k:=.u64) (by omega);have A:∀h,bA 1 (.arr 1 v (aF P) true::h) (.own 0 v L) (.n (p:Int))=some (.eptr 0 v p 0):=fun h=>PV (l:=0) rfl (by rw[byteRows_len,y]) (row:=[.int .u8 b]) (xT r) rfl;have D:∀h,aB 1 false (.arr 1 v (aF P) true::h) (.eptr 0 v p 0)=some (.int .u8 b):=fun h=>by rw[VS (l:=0) rfl (xT r)];rfl
  have u:=fun l h=>iV (G:=G) (s:=l) (h:=h) (len:=25) (size:=1) (l:=1) (off:=0) (i:=q) (k:=.i64) (by omega) (by decide);have C:∀B:Blk,aB 1 false [B,.cells (wd c)] (.ptr 1 q)=some (.u (c.getD q 0)):=fun B=>aR (l:=1) rfl (jN (by omega));have k:=fun w=>uL (h:=[.arr 1 v (aF P) true,.cells (wd c)]) (l:=1) (off:=q) (vs:=wd c) (k:=.u64) (n:=w) rfl (by simp;omega);simp only[uJ]at k;have g:=zP7 G s v L P y F a H n o j (i+1) _ X (by omega) (by rw[rL];exact z) f;generalize c.getD q 0=v0 at C g;generalize aF P=R at A D k g⊢;simp only[eR,mB,List.set]at u k;have Z:∀l w,opV G l [.arr 1 v R true,.cells (wd c)] (.st 1) (some [.ptr 1 q,.u w])=some (.junk,[.arr 1 v R true,.cells (wd (c.set q w))]):=fun l w=>by rw[vZ,k];rfl
  generalize sl (IntKind.u64.wrap b) (8*(m:Int))=b2 at x g;refine aJ (Mc.aw_L2.eq_1) ?_;rw[aQ (n:=2) rfl];simp[J,T,O,Y,w0,w1,A,D,u,C,x,Z,V,-vZ,-bB,-aB];refine cZ ?_;rw[aQ (n:=2) rfl];simpa[sfr,wd]using g
theorem zP6(G:Gam)(l:List Int->List Int)(D:∀b,b.length=25->∀g h,opV G g h (.call Fn.br) (some [.agg (wd b)])=some (.agg (wd (l b)),h))(t:∀b,b.length=25->(l b).length=25)(F:∀b x,CF b x=l (iM b 0 (x.take 136)))(s:Bs)(v L:Nat)(P:List Int)(C:P.length=L)(A:L<=1000000000){ks:List MK}{Q:aY}:∀(n j:Nat)(b:List Int)(m:AV),(n+j)*136=L->b.length=25->(∀z,exM G .normal ks Q z (sfr s v L (.ptr 1 0) (.n L) .junk .junk .junk) [.arr 1 v (aF P) true,.cells (wd (kG n b (P.drop (j*136))))])->cY G [6] Mc.aw_L1 2 (.blk 2::ks) Q (sfr s v L (.ptr 1 0) (.n ((j*136:Nat):Int)) m .junk .junk) [.arr 1 v (aF P) true,.cells (wd b)]
 |0,j,b,m,J,u,f=>by
  have e:j*136=L:=by omega
  rw[e]at f⊢;have:=f;simp only[kG]at this;have w:∀h,aI h 1 (.own 0 v L)=some (.n (L:Int)):=fun h=>rfl;have q:ltB (L:Int) (L:Int)=false:=bC.2 (by omega);refine aJ (Mc.aw_L1.eq_1) ?_;rw[aQ (n:=2) rfl];simp[w,-aI];exact this _|n+1,j,b,m,J,u,f=>by
  obtain⟨a,p⟩:∃a:Nat,a=j*136:=⟨_,rfl⟩;have I:a+136<=L:=by rw[p];omega
  have w:∀h,aI h 1 (.own 0 v L)=some (.n (L:Int)):=fun h=>rfl;have q:ltB (a:Int) (L:Int)=true:=aO.2 (by omega);obtain⟨a2,H⟩:∃a2:Nat,a2=(j+1)*136:=⟨_,rfl⟩;have N:IntKind.i64.wrap ((a:Int)+136)=(a2:Int):=by rw[i64_in _ ⟨by omega,by omega⟩];omega
  have i:(iM b 0 ((P.drop a).take 136)).length=25:=by rw[tH];exact u
  simp only[kG]at f;rw[F,<-p,DP,show a+136=(j+1)*136 by omega]at f;have o:=fun ks Q f=>zP7 G s v L P C A a I .junk .junk (ks:=ks) (Q:=Q) ((P.drop a).take 136) 0 b rfl (by omega) u f;have k:=fun m=>zP6 G l D t F s v L P C A n (j+1) (l (iM b 0 ((P.drop a).take 136))) m (by omega) (t _ i) f;rw[<-H]at k;rw[<-p];clear f;generalize iM b 0 ((P.drop a).take 136)=c at o i k;have y:=D c i;have E:=t c i;generalize l c=r at y E k;have K:∀B:Blk,∀g,opV G g [B,.cells (wd c)] (.ld 25 true) (some [.ptr 1 0])=some (.agg (wd c),[B,.cells (wd c)]):=fun B g=>by rw[zE7,zy5 (l:=1) (vs:=wd c) rfl (by simpa using i)];rfl
  have M:∀B:Blk,∀g,opV G g [B,.cells (wd c)] (.st 25) (some [.ptr 1 0,.agg (wd r)])=some (.junk,[B,.cells (wd r)]):=fun B g=>by rw[vZ,nP (l:=1) (vs:=wd c) (us:=wd r) rfl (by simpa using i) (by simpa using E) (by omega) (pB (fun _=>rfl) r)];rfl
  generalize aF P=R at o k⊢;simp only[sfr]at o k⊢;refine aJ (Mc.aw_L1.eq_1) ?_;rw[aQ (n:=2) rfl];simp[w,q,-aI];refine o _ _ (fun z=>?_);simp[K,y,M,N,-zE7,-vZ];refine cZ ?_;rw[aQ (n:=2) rfl];simpa using k _
theorem zP8(G:Gam)(s:Bs)(v L:Nat)(R:List (List AV))(p:List Int)(y:p.length=25)(g:AV){ks:List MK}{Q:aY}:∀(k i:Nat)(o:List Int),i+k=32->o.length=32->(∀r,exM G .normal ks Q r (sfr s v L (.ptr 1 0) g .junk (.own 2 0 32) (.n 32)) [.arr 1 v R true,.cells (wd p),.arr 1 0 (aF (kU p k i o)) true])->cY G [] Mc.aw_L3 3 (.blk 6::ks) Q (sfr s v L (.ptr 1 0) g .junk (.own 2 0 32) (.n i)) [.arr 1 v R true,.cells (wd p),.arr 1 0 (aF o) true]
 |0,i,o,t,j,a=>by
  have e:i=32:=by omega
  subst e;have:=a;simp only[kU]at this;refine aJ (Mc.aw_L3.eq_1) ?_;rw[aQ (n:=3) rfl];simp;simpa using this _|k+1,i,o,t,j,a=>by
  have u:ltB i 32=true:=aO.2 (by omega);have E:=dT (i:=i) (by unfold big;omega);obtain⟨q,D,C⟩:=RK (i:=i) (by omega);obtain⟨m,w,N,x⟩:=RM i;simp only[kU,<-D,<-w]at a;have F:aW .mul (.n 8) (.n (m:Int))=some (.n (8*(m:Int))):=by simp only[aW,fS];simp;rw[fO (by omega) (by omega)]
  have J:IntKind.u64.wrap (8*(m:Int))=8*(m:Int):=ZU ⟨by omega,by omega⟩;have l:=fun H h=>iV (G:=G) (s:=H) (h:=h) (len:=25) (size:=1) (l:=1) (off:=0) (i:=q) (k:=.i64) (by omega) (by decide);have n:∀A B:Blk,aB 1 false [A,.cells (wd p),B] (.ptr 1 q)=some (.u (p.getD q 0)):=fun A B=>aR (l:=1) rfl (jN (by omega));have f:=OG (a:=p.getD q 0) (b:=8*(m:Int)) (k:=.u64) (by omega);have b:=zP8 G s v L R p y g k (i+1) _ (by omega) (by rw[rL];exact j) a;generalize p.getD q 0=I at n f b;generalize sr I (8*(m:Int))=z at f b;have at1:bA 1 [.arr 1 v R true,.cells (wd p),.arr 1 0 (aF o) true] (.own 2 0 32) (.n (i:Int))=some (.eptr 2 0 i 0):=OD (l:=2) (k:=.i64) (i:=i) (n:=32) rfl j.symm (by omega);have c:=OE (G:=G) (st0:=false) (h:=[.arr 1 v R true,.cells (wd p),.arr 1 0 (aF o) true]) (l:=2) (i:=i) (v:=IntKind.u8.wrap z) rfl (by omega);simp only[eR,mB,List.set]at l c;generalize aF o=K at at1 c⊢;generalize aF (o.set i (IntKind.u8.wrap z))=M at c b;refine aJ (Mc.aw_L3.eq_1) ?_;rw[aQ (n:=3) rfl];simp[u,C,x,F,J,l,n,f,at1,c,E,-bB,-aB,-vZ];refine cZ ?_;rw[aQ (n:=3) rfl];simpa[sfr,wd]using b
theorem zG1{F:List Int->Int->List Int}(b:∀a c,(F a c).length=25):∀(r a:List Int),a.length=25->(fX F a r).length=25
 |[],a,h=>h|c::r,a,_=>by
  rw[fX];exact zG1 b r _ (b a c)
theorem xe1(b:List Int->List Int){a:List Int}(c:a.length=25):F1 (jA rW) (jA rW) (fun a=>if a.length=25 then some (b a)else none) [.agg (wd a)]=some (.agg (wd (b a))):=nB (A:=jA rW) (R:=jA rW) (f:=fun a=>if a.length=25 then some (b a)else none) (x:=a) (r:=b a) (if_pos c)
def pmR(a:List Int):List Int:=fX lR a constL
theorem zP1(b a:List Int):CF b a=pmR (iM b 0 (a.take 136)):=by unfold CF pmR;rfl
theorem zG7{a:List Int}(h:a.length=25):(pmR a).length=25:=by
 unfold pmR;exact zG1 (F:=lR) zL1 constL a h
theorem zY3:DC=F1 (jA rW) (jA rW) (fun a=>if a.length=25 then some (pmR a)else none):=by unfold DC pmR;rfl
theorem xf4{G:Gam}{st:List Int}(b:G Fn.br=some (.pure DC))(c:st.length=25)(e:Bool)(h:aA):opV G e h (.call Fn.br) (some [.agg (wd st)])=some (.agg (wd (pmR st)),h):=by
 have a:=xe1 pmR c;rw[<-zY3]at a;generalize pmR st=r at a⊢;exact bF b (us:=[.agg (wd st)]) (by simp) a (.inr (by simp[owns,dX]))
def NB:List AV->Option AV:=F1 eStr eStr fun d=>if d.length<=100000000 then some (dsum d)else none
set_option maxHeartbeats 1000000 in theorem xr4{G:Gam}(X:G Fn.br=some (.pure DC)):PW G Mc.aw Rs.aw Ks.aw NB:=mK fun s c3 h=>by
 split at h
 ·rename_i Z;injection h with h;subst h;rw[aM,<-zQ1];have D:=fun a hs=>xf4 (G:=G) (st:=a) X hs;have r:(cF s).length=s.length:=by simp[cF]
  have z:s.length+1+gF s.length<=1000000000:=by unfold gF;omega
  have q:(gH (cF s)).length=s.length+1+gF s.length:=by rw[xd3,r]
  have b1:=zF0 s.length;obtain⟨N,W⟩:∃N,(N+0)*136=s.length+1+gF s.length:=⟨(s.length+1+gF s.length)/136,by omega⟩;have C:(gH (cF s)).length/136=N:=by rw[q];omega
  have zl:zs25.length=25:=rfl;have E:(kG N zs25 (gH (cF s))).length=25:=by
   have:∀(n:Nat)(a l:List Int),a.length=25->(kG n a l).length=25:=by
    intro n;induction n with
    |zero=>intro a l h;exact h|succ n ih=>intro a l h;simp only[kG];refine ih _ _ ?_;rw[zP1];exact zG7 (by rw[tH];exact h)
   exact this N zs25 _ zl
  have b:=fun g Q f=>zP5 G s Z (ks:=g) (Q:=Q) f (gF s.length) 0 (by omega);have t:=fun v g Q f=>zP6 G pmR D (fun _ h=>zG7 h) zP1 s v (s.length+1+gF s.length) (gH (cF s)) q z (ks:=g) (Q:=Q) N 0 zs25 .junk W zl f;have u:=fun v R m g Q f=>zP8 G s v (s.length+1+gF s.length) R (kG N zs25 (gH (cF s))) E m (ks:=g) (Q:=Q) 32 0 (List.replicate 32 0) (by omega) (by simp) f;unfold RQ;rw[C];have F:=XF (kG N zs25 (gH (cF s))) 32 0 (List.replicate 32 0) (fun n hn=>by rw[List.eq_of_mem_replicate hn];exact⟨by omega,by omega⟩);have H:(kU (kG N zs25 (gH (cF s))) 32 0 (List.replicate 32 0)).length=32:=by rw[QZ];simp
  have o:(gO (cF s)).length=s.length+1+gF s.length:=by rw[XI,r]
  obtain⟨V,Y⟩:∃V,V=1+gF s.length:=⟨_,rfl⟩;obtain⟨L,p⟩:∃L,L=s.length+1+gF s.length:=⟨_,rfl⟩;obtain⟨M,U⟩:∃M,M=L-1:=⟨_,rfl⟩;have I:gH (cF s)=(gO (cF s)).set M (orB ((gO (cF s)).getD M 0) 128):=by unfold gH;rw[o,<-p,<-U]
  rw[<-Y,<-p]at b;rw[<-p]at t u q o z;have c:=t V;have K:=u V;clear t u;have j:(gO (cF s))[M]?=some ((gO (cF s)).getD M 0):=by rw[nV,jT (by omega)];rfl
  have wL:IntKind.i64.wrap ((L:Int)-1)=(M:Int):=by rw[i64_in _ ⟨by omega,by omega⟩];omega
  have J:∀h,bA 1 (.arr 1 V (aF (gO (cF s))) true::h) (.own 0 V L) (.n (M:Int))=some (.eptr 0 V M 0):=fun h=>PV (l:=0) rfl (by rw[byteRows_len,o]) (row:=[.int .u8 ((gO (cF s)).getD M 0)]) (xT j) rfl;have w:∀h,aB 1 false (.arr 1 V (aF (gO (cF s))) true::h) (.eptr 0 V M 0)=some (.int .u8 ((gO (cF s)).getD M 0)):=fun h=>by rw[VS (l:=0) rfl (xT j)];rfl
  have k:opV G false [.arr 1 V (aF (gO (cF s))) true] (.st 1) (some [.eptr 0 V M 0,.int .u8 (orB ((gO (cF s)).getD M 0) 128)])=some (.junk,[.arr 1 V (aF (gH (cF s))) true]):=by
   rw[WZ (n:=1) (l:=0) rfl (xT j) rfl (by omega) rfl (by simp) rfl rfl,I,<-zk5];rfl
  have P:∀a,opV G a [] .s2b (some [.str s])=some (.own 0 0 s.length,[.arr 1 0 (aF (cF s)) true]):=fun a=>by
   rw[eG rfl];simp only[cG];rw[if_pos (by unfold bT;omega)];simp[aF,cF]
  have i:=fun a=>QX (G:=G) (s:=a) (h:=[.arr 1 0 (aF (cF s)) true]) (n:=1) (b:=1) (l:=0) (ver:=0) (k:=s.length) (x:=.tsl [[.int .u8 6]]) (new:=[[.int .u8 6]]) (rows:=aF (cF s)) rfl rfl (by rw[byteRows_len,r]) rfl (by simp) (by simp[bT];omega) (by simp[bT];omega);have T:aF (cF s)++[[.int .u8 6]]=aF (cF s++[6]):=by simp[aF]
  simp only[vE,List.set,T]at i;have S:∀a h,opV G a h (.bsl false 1) (some [.int .u8 6])=some (.tsl [[.int .u8 6]],h):=fun a h=>by rw[kI rfl];rfl
  simp only[List.replicate_zero,Nat.add_zero]at b;have ln:∀h,aI h 1 (.own 0 V L)=some (.n (L:Int)):=fun h=>rfl;have b2:zz25=wd zs25:=rfl;have O:∀A B:Blk,opV G false [A,B] (.mksl [.int .u8 0] 1) (some [.n 32,.n 32])=some (.own 2 0 32,[A,B,.arr 1 0 (aF (List.replicate 32 0)) true]):=fun A B=>by
   have:=QY (G:=G) (s:=false) (h:=[A,B]) (zero:=[.int .u8 0]) (bytes:=1) (n:=32) (k:=.i64) (k':=.i64) (by decide) (by decide);simpa[aF]using this
  have x:∀A B:Blk,opV G false [A,B,.arr 1 0 (aF (kU (kG N zs25 (gH (cF s))) 32 0 (List.replicate 32 0))) true] .b2s (some [.own 2 0 32])=some (.str (kA (kU (kG N zs25 (gH (cF s))) 32 0 (List.replicate 32 0))),[A,B,.arr 1 0 (aF (kU (kG N zs25 (gH (cF s))) 32 0 (List.replicate 32 0))) true]):=fun A B=>by
   rw[eV rfl];have:=sL (h:=[A,B,.arr 1 0 (aF (kU (kG N zs25 (gH (cF s))) 32 0 (List.replicate 32 0))) true]) (l:=2) (v:=0) rfl (n:=32) (by rw[byteRows_len];exact H.symm);simp only[dH,this,OM _ F,Option.map]
  have e:=fun m=>K (aF (gH (cF s))) m;clear K I j F H C b1 D E;generalize kU (kG N zs25 (gH (cF s))) 32 0 (List.replicate 32 0)=c1 at x e⊢;simp only[Nat.zero_mul,vB]at c;generalize kG N zs25 (gH (cF s))=c2 at c e;generalize aF (gH (cF s))=RP at k c e;generalize(gO (cF s)).getD M 0=d1 at w k;generalize aF (gO (cF s))=R0 at J w k b;generalize aF (cF s++[6])=R6 at i b;generalize aF (cF s)=RB at P i;generalize aF (List.replicate 32 0)=RZ at O e;simp only[Mc.aw,b2];generalize zs25=b3 at c⊢;simp only[sfr]at b c e;simp[aC,Ks.aw,P,S,i,-kI];refine b _ _ (fun y=>?_);simp[ln,wL,J,w,k,-aI,-aB,-vZ];refine c _ _ (fun y=>?_);simp[O];refine e _ _ _ (fun y=>?_);simp[x,Rs.aw]
 ·cases h
def dO:Bs->Bs
 |[]=>[]|b::r=>hexDigit (b.toNat/16)::hexDigit (b.toNat%16)::dO r
theorem BF:∀s:Bs,(dO s).length=2*s.length
 |[]=>rfl|b::r=>by simp only[dO,hJ,BF r];omega
section
variable(ds:Bs->Bs)
variable(hds:∀d,(ds d).length=32)
include hds
end
section
variable{G:Gam}{s:Bool}{h:aA}
theorem WU{f:FuncId}{F:List AV->aA->Option (AV×aA)}{a:List AV}(b:G f=some (.gen F)):opV G s h (.callg f) (some a)=F a h:=by rw[eG rfl];simp only[cG,eD,b]
end
def tI(p:Nat):AV->Bool
 |.nilp=>true|.ptr q 0=>decide (q=p)|_=>false
def oE(T e:TypeId)(h:aA)(p l v n:Nat)(a:List (List AV))(s:Bs):aA:=(h.set p (.cellsT (some T) [.ptr p 0,.own l (v+s.length) (n+s.length)])).set l (.arrT (some e) 1 (v+s.length) (a++s.map gJ) true)
def nR(T e:TypeId)(h:aA)(p:Nat)(s:Bs):Option aA:=match h[p]? with
 |some (.cellsT tg [a,.own l v n])=>match h[l]? with
  |some (.arrT c 1 f b true)=>if tg=some T/\c=some e/\tI p a=true/\v=f/\n=b.length/\n+s.length<=bT then some (oE T e h p l v n b s)else none|_=>none
 |_=>none
def GF(T e:TypeId):List AV->aA->Option (AV×aA)
 |[.ptr p 0,.int .u8 c],h=>if 0<=c/\c<256 then(nR T e h p [UInt8.ofNat c.toNat]).map fun a=>(.nili,a)else none|_,_=>none
def uR(T e:TypeId):List AV->aA->Option (AV×aA)
 |[.ptr p 0,.str s],h=>(nR T e h p s).map fun a=>(.tup [.n s.length,.nili],a)|_,_=>none
def zD:List AV->aA->Option AV
 |[.ptr p 0],h=>match h[p]? with
  |some (.cellsT _ [_,.own _ _ n])=>some (.n n)|_=>none
 |_,_=>none
def rF(e:TypeId):List AV->aA->Option (AV×aA)
 |[.ptr p 0],h=>match h[p]? with
  |some (.cellsT _ [_,.own l v n])=>match h[l]? with
   |some (.arrT c 1 f a true)=>if c=some e/\v=f/\n=a.length/\n<=bT then(if n=0 then some (.str [],h)else(lP a).map fun b=>(.str b,h.set l .dead))else none|_=>none
  |_=>none
 |_,_=>none
theorem ZZ{T e:TypeId}{h g:aA}{p:Nat}{s:Bs}(b:nR T e h p s=some g):∃a l v c,h[p]?=some (.cellsT (some T) [a,.own l v c.length])/\h[l]?=some (.arrT (some e) 1 v c true)/\tI p a=true/\c.length+s.length<=bT/\g=oE T e h p l v c.length c s/\l≠p:=by
 unfold nR at b;split at b
 ·rename_i tg a l v n i;split at b
  ·rename_i o q c f;split at b
   ·rename_i m;obtain⟨rfl,rfl,j,rfl,rfl,k⟩:=m;injection b with b;exact⟨a,l,v,c,i,f,j,k,b.symm,fun e=>by subst e;rw[i]at f;cases f⟩
   ·cases b
  ·cases b
 ·cases b
theorem zk8{h:aA}{p:Nat}{a x:AV}(c:h[p]?=some (.cellsT (some 95) [a,x]))(b:tI p a=true):rH [95,396] [.ptr p 0] h=some (.tup [],h.set p (.cellsT (some 95) [.ptr p 0,x])):=by
 cases a<;>first|(simp[tI]at b;done)|skip
 case nilp=>simp[rH,c]
 case ptr q o=>cases o with
  |succ o=>simp[tI]at b|zero=>
   simp only[tI,fU]at b;subst b;simp[rH,c,uI c]
theorem zi7{G:Gam}{st:Bool}{e:TypeId}{h:aA}{l v:Nat}{a:List (List AV)}{x:AV}{str:Bool}{s:Bs}(b:h[l]?=some (.arrT (some e) 1 v a true))(g:kF h str x=some (s.map gJ))(i:a.length+s.length<=bT):opV G st h (.appT str 1 1 e) (some [.own l v a.length,x])=some (.own l (v+s.length) (a.length+s.length),h.set l (.arrT (some e) 1 (v+s.length) (a++s.map gJ) true)):=by
 have f:dB 1 (s.map gJ)=true:=FM (e:=gJ) (n:=1) (fun _=>rfl) s;by_cases c:s=[]
 ·subst c;rw[eG rfl];simp only[cG,g,f,bD,lN,b];simp[uI b]
 ·have:=xb7 (G:=G) (s:=st) (e:=e) g b rfl f (by simpa using c) (by simpa using i);simpa using this
theorem yY6{T e:TypeId}{h:aA}{p l v n:Nat}{rows:List (List AV)}{s:Bs}{a b:Blk}(j:h[p]?=some a)(g:h[l]?=some b)(i:l≠p):(oE T e h p l v n rows s)[p]?=some (.cellsT (some T) [.ptr p 0,.own l (v+s.length) (n+s.length)])/\(oE T e h p l v n rows s)[l]?=some (.arrT (some e) 1 (v+s.length) (rows++s.map gJ) true):=by
 have c:=(aV.1 j).1;have f:=(aV.1 g).1;unfold oE;constructor;·rw[lL i,jI c]
 ·rw[jI (by simpa using f)]
theorem zC2{T e:TypeId}{h:aA}{p l v:Nat}{rows:List (List AV)}{s:Bs}{x:Blk}(a:l≠p):((h.set p x).set l (.arrT (some e) 1 (v+s.length) (rows++s.map gJ) true)).set p (.cellsT (some T) [.ptr p 0,.own l (v+s.length) (rows.length+s.length)])=oE T e h p l v rows.length rows s:=by
 unfold oE;rw[List.set_comm _ _ a,tP]
theorem yd6{G:Gam}(n:G Fn.d9=some (.gen (rH [95,396]))):GW G Mc.ct Rs.ct Ks.ct (uR 95 5):=by
 intro x h r y e;unfold uR at e;split at e
 ·rename_i p s;simp only[dJ,dF]at e;obtain⟨z,w,rfl,rfl⟩:=e;obtain⟨a,l,v,b,k,t,o,q,rfl,g⟩:=ZZ w;have u:=(aV.1 k).1;have i:opV G false h (.call Fn.d9) (some [.ptr p 0])=some (.tup [],h.set p (.cellsT (some 95) [.ptr p 0,.own l v b.length])):=by rw[eX n];exact zk8 k o
  obtain⟨c,f⟩:∃c,c=h.set p (.cellsT (some 95) [.ptr p 0,.own l v b.length]):=⟨_,rfl⟩;rw[<-f]at i;have j:c[p]?=some (.cellsT (some 95) [.ptr p 0,.own l v b.length]):=by rw[f,jI u]
  have m:c[l]?=some (.arrT (some 5) 1 v b true):=by rw[f,lL (Ne.symm g)];exact t
  have g3:aB 1 false c (.ptr p 1)=some (.own l v b.length):=by simp[aB,j,cut,aE]
  have g4:=zi7 (G:=G) (st:=false) (e:=5) (x:=.str s) (str:=true) m rfl q;have g5:(c.set l (.arrT (some 5) 1 (v+s.length) (b++s.map gJ) true))[p]?=some (.cellsT (some 95) [.ptr p 0,.own l v b.length]):=by rw[lL g];exact j
  rw[aM];simp[Mc.ct,Ks.ct,aC,upd,lkp,dM,Rs.ct,i,g3,g4,g5,-aB];rw[f];exact zC2 g
 ·cases e
theorem yd5{G:Gam}(t:G Fn.d9=some (.gen (rH [95,396]))):GW G Mc.dv Rs.dv Ks.dv (GF 95 5):=by
 intro C h r D e;unfold GF at e;split at e
 ·rename_i p c;split at e
  ·rename_i F;simp only[dJ,dF]at e;obtain⟨E,B,rfl,rfl⟩:=e;obtain⟨a,l,v,b,n,y,u,w,rfl,j⟩:=ZZ B;have A:=(aV.1 n).1;have k:opV G false h (.callg Fn.d9) (some [.ptr p 0])=some (.tup [],h.set p (.cellsT (some 95) [.ptr p 0,.own l v b.length])):=by rw[WU t];exact zk8 n u
   obtain⟨f,i⟩:∃f,f=h.set p (.cellsT (some 95) [.ptr p 0,.own l v b.length]):=⟨_,rfl⟩;rw[<-i]at k;have m:f[p]?=some (.cellsT (some 95) [.ptr p 0,.own l v b.length]):=by rw[i,jI A]
   have q:f[l]?=some (.arrT (some 5) 1 v b true):=by rw[i,lL (Ne.symm j)];exact y
   have g3:aB 1 false f (.ptr p 1)=some (.own l v b.length):=by simp[aB,m,cut,aE]
   have x:((UInt8.ofNat c.toNat).toNat:Int)=c:=by
    rw[ID];omega
   have g4:=zi7 (G:=G) (st:=false) (e:=5) (x:=.tsl [[.int .u8 c]]) (str:=false) (s:=[UInt8.ofNat c.toNat]) q (by simp only[kF,dE,bY,rowsOf,iO,rM,gJ,x]) w;have g5:(f.set l (.arrT (some 5) 1 (v+[UInt8.ofNat c.toNat].length) (b++[UInt8.ofNat c.toNat].map gJ) true))[p]?=some (.cellsT (some 95) [.ptr p 0,.own l v b.length]):=by rw[lL j];exact m
   have g:=zC2 (T:=95) (e:=5) (h:=h) (p:=p) (l:=l) (v:=v) (rows:=b) (s:=[UInt8.ofNat c.toNat]) (x:=.cellsT (some 95) [.ptr p 0,.own l v b.length]) j;rw[<-i]at g;rw[aM];simp only[vE]at g4 g5 g;obtain⟨o,z⟩:∃o,o=[UInt8.ofNat c.toNat].map gJ:=⟨_,rfl⟩;rw[<-z]at g4 g5 g;simp[Mc.dv,Ks.dv,aC,upd,lkp,dM,Rs.dv,k,g3,g4,g5,g,dX,owns,bU,view,dB,fW,bE,-aB]
  ·cases e
 ·cases e
theorem yd1{G:Gam}:GW G Mc.bz Rs.bz Ks.bz (rF 5):=by
 intro t h r u b;unfold rF at b;split at b
 ·rename_i p;split at b
  ·rename_i tg a l v n o;split at b
   ·rename_i w x c f;split at b
    ·rename_i m;obtain⟨rfl,rfl,rfl,j⟩:=m;have g3:aB 1 false h (.ptr p 1)=some (.own l v c.length):=by simp[aB,o,cut,aE]
     split at b
     ·rename_i e;have q:c=[]:=vC e;subst q;simp only[aT,dF]at b;obtain⟨rfl,rfl⟩:=b;have g4:opV G true h .usd (some [.own l v 0])=some (.nilp,h):=by
       rw[eV rfl];simp[dH,f]
      have g5:opV G true h (.ustr 5) (some [.nilp,.n 0])=some (.str [],h):=by
       rw[eG rfl];simp[cG]
      simp only[gQ]at g3;rw[aM];simp[Mc.bz,Ks.bz,aC,upd,lkp,dM,Rs.bz,g3,g4,g5,aI,-aB]
     ·rename_i e;simp only[dJ,dF]at b;obtain⟨g,k,rfl,rfl⟩:=b;have i:0<c.length:=by omega
      have g4:opV G true h .usd (some [.own l v c.length])=some (.eptr l v 0 0,h):=by
       rw[eV rfl];simp[dH,e]
      have g5:opV G true h (.ustr 5) (some [.eptr l v 0 0,.n c.length])=some (.str g,h.set l .dead):=by
       rw[eG rfl];simp[cG,f,i,j,k]
      rw[aM];simp[Mc.bz,Ks.bz,aC,upd,lkp,dM,Rs.bz,g3,g4,g5,aI,-aB]
    ·cases b
   ·cases b
  ·cases b
 ·cases b
theorem UX:∀s t:Bs,dO (s++t)=dO s++dO t
 |[],t=>rfl|b::r,t=>by simp[dO,UX r t]
def zF:List AV->aA->Option (AV×aA)
 |[.int .u8 c,.ptr p 0],h=>if 0<=c/\c<16 then(nR 95 5 h p [hexDigit c.toNat]).map fun a=>(.tup [],a)else none|_,_=>none
theorem yQ9(n:Nat):((hexDigit n).toNat:Int)<256:=by have:=(hexDigit n).toNat_lt;omega
theorem xa6(n:Nat):UInt8.ofNat ((hexDigit n).toNat:Int).toNat=hexDigit n:=by simp
theorem zY9{G:Gam}(i:G Fn.dv=some (.gen (GF 95 5))):GW G Mc.c1 Rs.c1 Ks.c1 zF:=by
 intro m h r o a;unfold zF at a;split at a
 ·rename_i c p;split at a
  ·rename_i q;simp only[dJ,dF]at a;obtain⟨g,b,rfl,rfl⟩:=a;obtain⟨n,rfl⟩:∃n:Nat,c=n:=⟨c.toNat,by omega⟩;have l:n<16:=by omega
   have k:hexDigits[n]?=some (hexDigit n):=by
    unfold hexDigit;rw[nV];have:n<hexDigits.length:=l;simp[this]
   have e:opV G false h (.callg Fn.dv) (some [.ptr p 0,.int .u8 (hexDigit n).toNat])=some (.nili,g):=by
    rw[WU i];simp only[GF];rw[if_pos ⟨by omega,yQ9 n⟩,xa6];simp at b;rw[b];rfl
   have f:opV G false h .istr (some [.str [48,49,50,51,52,53,54,55,56,57,97,98,99,100,101,102],.int .u8 n])=some (.int .u8 (hexDigit n).toNat,h):=by
    rw[eV rfl];have j:([48,49,50,51,52,53,54,55,56,57,97,98,99,100,101,102]:Bs)[n]?=some (hexDigit n):=k;simp[dH,j]
   rw[aM];simp[Mc.c1,Ks.c1,aC,lkp,dM,Rs.c1,e,f]
  ·cases a
 ·cases a
theorem zO0(b:UInt8):aW .shr (.int .u8 (b.toNat:Int)) (.u 4)=some (.int .u8 ((b.toNat/16:Nat):Int)):=by
 have e:((b.toNat:Int)).fdiv 16=((b.toNat/16:Nat):Int):=by rw[Int.fdiv_eq_ediv_of_nonneg _ (by omega)];omega
 have a:Nat.min (4:Int).toNat IntKind.u8.bits=4:=rfl;simp only[aW,reduceCtorEq,or_true,bD,a];simp;exact e
theorem zi5(b:UInt8):aW .and (.int .u8 (b.toNat:Int)) (.int .u8 15)=some (.int .u8 ((b.toNat%16:Nat):Int)):=by
 have g:=b.toNat_lt;have e:(BitVec.ofInt 8 (b.toNat:Int)&&&BitVec.ofInt 8 15).toNat=b.toNat%16:=by
  rw[BitVec.toNat_and];have a:(BitVec.ofInt 8 (b.toNat:Int)).toNat=b.toNat:=by rw[DO];omega
  have c:(BitVec.ofInt 8 15).toNat=2^4-1:=rfl;rw[a,c,Nat.and_two_pow_sub_one_eq_mod]
 have f:fS .and .u8 (b.toNat:Int) 15=some (.int .u8 (IntKind.u8.wrap ((BitVec.ofInt 8 (b.toNat:Int)&&&BitVec.ofInt 8 15).toNat:Int))):=rfl;simp only[aW,reduceCtorEq,or_self,bY,bD];rw[f,e,LM (by omega)]
def lO(o:Bs):aA:=[.arrT (some 5) 1 o.length (o.map gJ) true,.cellsT (some 95) [if o=[]then .nilp else .ptr 1 0,.own 0 o.length o.length]]
theorem zj8{o s:Bs}(c:s≠[])(b:o.length+s.length<=bT):nR 95 5 (lO o) 1 s=some (lO (o++s)):=by
 have a:tI 1 (if o=[]then .nilp else .ptr 1 0)=true:=by split<;>rfl
 simp only[nR,lO,mM,tM];rw[if_pos ⟨trivial,trivial,a,trivial,by simp,b⟩];simp[oE,c]
theorem yj0{o:Bs}(a:o≠[])(b:o.length<=bT):rF 5 [.ptr 1 0] (lO o)=some (.str o,(lO o).set 0 .dead):=by
 have:0<o.length:=vD.2 a;simp only[rF,lO,mM,tM];rw[if_pos ⟨trivial,trivial,by simp,b⟩,if_neg (by omega),OL];rfl
theorem yi9:lO []=[.arrT (some 5) 1 0 [] true,.cellsT (some 95) [.nilp,.own 0 0 0]]:=rfl
@[simp]theorem xI7{G:Gam}{a:Bool}{h:aA}{t e:TypeId}:opV G a h (.allocB t e) (some [])=some (.ptr (h.length+1) 0,h++[.arrT (some e) 1 0 [] true]++[.cellsT (some t) [.nilp,.own h.length 0 0]]):=by rw[eG rfl];rfl
def BG(s:Bs):AV:=if s.length=32 then .tup [.str (dO s),.n 0]else .tup [.str [],.n 1]
def sW:List AV->Option AV
 |[.str s]=>if s.length<big then some (BG s)else none|_=>none
theorem zu9(G:Gam)(a:G Fn.c1=some (.gen zF))(s:Bs)(y:s.length<1000){ks:List MK}{Q:aY}:∀(j:Bs)(i:Nat),s.drop i=j->i<=s.length->(∀x,exM G .normal ks Q x [(0,.str s),(2,.str []),(3,.n 0),(4,.ptr 1 0),(5,.fn Fn.c1 [.ptr 1 0]),(6,.n s.length)] (lO (dO s)))->cY G [] Mc.bh_L0 2 (.blk 0::ks) Q [(0,.str s),(2,.str []),(3,.n 0),(4,.ptr 1 0),(5,.fn Fn.c1 [.ptr 1 0]),(6,.n i)] (lO (dO (s.take i)))
 |[],i,f,z,g=>by
  have B:=drop_nil f;have e:i=s.length:=by omega
  subst e;rw[kE];refine aJ (Mc.bh_L0.eq_1) ?_;rw[aQ (n:=2) rfl];simp;simpa using g _|b::j,i,f,z,g=>by
  obtain⟨B,p,K⟩:=eT f;have A:ltB i s.length=true:=aO.2 (by omega);have J:=dT (i:=i) (by unfold big;omega);have P:(s.take i).length=i:=by simp;omega
  have I:s.take (i+1)=s.take i++[b]:=by rw[xO,p];rfl
  have E:dO (s.take (i+1))=(dO (s.take i)++[hexDigit (b.toNat/16)])++[hexDigit (b.toNat%16)]:=by rw[I,UX];simp[dO]
  have O:=BF (s.take i);have N:=b.toNat_lt;have k:eD G Fn.c1 [.int .u8 ((b.toNat/16:Nat):Int),.ptr 1 0] (lO (dO (s.take i)))=some (.tup [],lO (dO (s.take i)++[hexDigit (b.toNat/16)])):=by
   rw[lB a];simp only[zF];rw[if_pos ⟨by omega,by omega⟩,iG,zj8 (by simp) (by unfold bT;simp;omega)];rfl
  have l:eD G Fn.c1 [.int .u8 ((b.toNat%16:Nat):Int),.ptr 1 0] (lO (dO (s.take i)++[hexDigit (b.toNat/16)]))=some (.tup [],lO (dO (s.take (i+1)))):=by
   rw[lB a,E];simp only[zF];rw[if_pos ⟨by omega,by omega⟩,iG,zj8 (by simp) (by unfold bT;simp;omega)];rfl
  have w:∀h,opV G false h .istr (some [.str s,.n i])=some (.int .u8 b.toNat,h):=fun h=>jX p;have r:=zu9 G a s y j (i+1) (by rw[<-K]) (by omega) g;refine aJ (Mc.bh_L0.eq_1) ?_;rw[aQ (n:=2) rfl];obtain⟨L,n⟩:∃H,H=lO (dO (s.take i)):=⟨_,rfl⟩;obtain⟨M,o⟩:∃H,H=lO (dO (s.take i)++[hexDigit (b.toNat/16)]):=⟨_,rfl⟩;obtain⟨v,c⟩:∃H,H=lO (dO (s.take (i+1))):=⟨_,rfl⟩;rw[<-n,<-o]at k;rw[<-o,<-c]at l;rw[<-c]at r;rw[<-n];have C:v.length=2:=by rw[c];rfl
  have t:=zO0 b;have u:=zi5 b;obtain⟨q,F⟩:∃q,q=b.toNat/16:=⟨_,rfl⟩;obtain⟨m,D⟩:∃m,m=b.toNat%16:=⟨_,rfl⟩;rw[<-F]at t k;rw[<-D]at u l;simp[A,w,t,u,k,l,J];refine cZ ?_;rw[aQ (n:=2) C];simpa using r
theorem zZ1{G:Gam}(i:G Fn.c1=some (.gen zF))(j:G Fn.bz=some (.gen (rF 5))):PW G Mc.bh Rs.bh Ks.bh sW:=by
 intro m r a;unfold sW at a;split at a
 ·rename_i s;split at a
  ·rename_i o;injection a with a;subst a;rw[aM];by_cases b:s.length=32
   ·have c:eqB s.length 32=true:=by simp[eqB,b]
    have k:dO s≠[]:=fun e=>by have:=congrArg List.length e;rw[BF]at this;simp at this;omega
    have l:=yj0 k (by rw[BF];unfold bT;omega);have g:opV G false (lO (dO s)) (.callg Fn.bz) (some [.ptr 1 0])=some (.str (dO s),(lO (dO s)).set 0 .dead):=by rw[WU j];exact l
    have f:=zu9 G i s (by omega) (ks:=[.seq (.seq (.reg [iz 29 (.callg Fn.bz) [.t 4],zM 2 29,Kc 3 0]) .ret)]) (Q:=aD Rs.bh (BG s)) s 0 rfl (by omega) (fun n=>by simp[g,aD,Rs.bh,BG,b,upd,lkp]);have p:eqB (32:Int) 32=true:=by simp[eqB]
    rw[lA,show dO []=[]from rfl,yi9]at f;simp[Mc.bh,Ks.bh,aC,upd,lkp,b];simpa[b]using f
   ·have c:eqB (s.length:Int) 32=false:=by simp[eqB];omega
    simp[Mc.bh,Ks.bh,aC,upd,lkp,c,BG,aD,Rs.bh,b]
  ·cases a
 ·cases a
end Go.Proofs.YtdebajodkallbaaGreatDoor
