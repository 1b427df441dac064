/- The functions,resolved: by program (Gen.lean). -/
import Derived.Test.YtpefhfiehfkocaaGreatDoorRecIds
namespace Go.Proofs.YtpefhfiehfkocaaGreatDoor
abbrev iz(d:Nat)(o:AO)(a:List At):MI:=⟨none,some d,false,o,a⟩
abbrev kz(d:Nat)(o:AO)(a:List At):MI:=⟨none,some d,true,o,a⟩
abbrev nz(o:AO)(a:List At):MI:=⟨none,none,false,o,a⟩
abbrev gz(t:Nat)(b:Bool)(d:Nat)(o:AO)(a:List At):MI:=⟨some (t,b),some d,false,o,a⟩
abbrev zm(d a:Nat):MI:=⟨none,some d,false,.mv,[.t a]⟩
abbrev zM(d a:Nat):MI:=⟨none,some d,true,.mv,[.t a]⟩
abbrev zf(d k a:Nat):MI:=⟨none,some d,false,.fadr k,[.t a]⟩
abbrev zl(d a:Nat):MI:=⟨none,some d,false,.ld 1 false,[.t a]⟩
abbrev zL(d n a:Nat):MI:=⟨none,some d,false,.ld n true,[.t a]⟩
abbrev ze(d k a:Nat):MI:=⟨none,some d,false,.ext k,[.t a]⟩
abbrev zb(d:Nat)(o:BinOp)(a b:Nat):MI:=⟨none,some d,false,.bin o,[.t a,.t b]⟩
abbrev zc(d:Nat)(o:BinOp)(a:Nat)(n:Int):MI:=⟨none,some d,false,.bin o,[.t a,.c (.int .i64 n)]⟩
abbrev zg(d:Nat)(f:FuncId)(a:List At):MI:=⟨none,some d,false,.call f,a⟩
abbrev zs(n a b:Nat):MI:=⟨none,none,false,.st n,[.t a,.t b]⟩
abbrev zn(d k a:Nat):MI:=⟨none,some d,false,.len k,[.t a]⟩
abbrev zi(d n a b:Nat):MI:=⟨none,some d,false,.iadr n,[.t a,.t b]⟩
def Ks.tree_Path:List Nat:=[0,2,3]
def Rs.tree_Path:List RV:=[.tmp 2]
def Dl.tree_Path:List (List Nat):=[]
def Mc.tree_Path:MC:=(.seq (.reg [kz 2 .mv [.c (.int .i64 0)]])
 (.seq (.reg [zm 4 0,zg 5 Fn.q78 [.t 4,.c (.str [47])],zM 3 5])
 (.seq (.seq (.reg [zm 6 0,zn 7 0 6,zc 8 .gtr 7 128,zm 9 8,gz 9 false 10 .mv [.t 3],gz 9 false 11 (.len 1) [.t 10],gz 9 false 12 (.bin .gtr) [.t 11,.c (.int .i64 8)],iz 13 .pick [.t 9,.c (.bool true),.t 12],zm 14 13,gz 14 false 15 .mv [.t 3],gz 14 false 16 (.call Fn.q19) [.t 15,.c (.fn Fn.tree_Path_1 [])],iz 17 .pick [.t 14,.c (.bool true),.t 16]])
 (.ite (.t 17)
 (.seq (.reg [kz 2 .mv [.c (.int .i64 2)]])
 .ret)
 .skip))
 (.seq (.reg [kz 2 .mv [.c (.int .i64 0)]])
 .ret))))
def Ks.q80:List Nat:=[0,2]
def Rs.q80:List RV:=[.tmp 2]
def Dl.q80:List (List Nat):=[]
def Mc.q80:MC:=(.seq (.reg [kz 2 .mv [.c (.str [])]])
 (.seq (.reg [zm 3 0,zg 4 Fn.q36 [.t 3],zM 2 4])
 .ret))
def Ks.q28:List Nat:=[0,1,4]
def Rs.q28:List RV:=[.tmp 4]
def Dl.q28:List (List Nat):=[]
def Mc.q28:MC:=(.seq (.reg [kz 4 .mv [.c (.bool false)]])
 (.seq (.reg [zm 5 0,zm 6 1,zg 7 Fn.q34 [.t 5,.t 6],zc 8 .geq 7 0,zM 4 8])
 .ret))
def Ks.q19:List Nat:=[0,1,4]
def Rs.q19:List RV:=[.tmp 4]
def Dl.q19:List (List Nat):=[]
def Mc.q19:MC:=(.seq (.reg [kz 4 .mv [.c (.bool false)]])
 (.seq (.reg [zm 5 0,zm 6 1,zg 7 Fn.q25 [.t 5,.t 6],zc 8 .geq 7 0,zM 4 8])
 .ret))
def Ks.tree_Path_1:List Nat:=[0,2]
def Rs.tree_Path_1:List RV:=[.tmp 2]
def Dl.tree_Path_1:List (List Nat):=[]
def Mc.tree_Path_1:MC:=(.seq (.reg [kz 2 .mv [.c (.bool false)]])
 (.seq (.reg [zm 3 0,zg 4 Fn.tree_part [.t 3],iz 5 (.un .not) [.t 4],zM 2 5])
 .ret))
def Ks.tree_part:List Nat:=[0,2]
def Rs.tree_part:List RV:=[.tmp 2]
def Dl.tree_part:List (List Nat):=[]
def Mc.tree_part:MC:=(.seq (.reg [kz 2 .mv [.c (.bool false)]])
 (.seq (.seq (.reg [zm 3 0,iz 4 (.bin .eql) [.t 3,.c (.str [])],zm 5 4,gz 5 false 6 .mv [.t 0],gz 5 false 7 (.len 0) [.t 6],gz 5 false 8 (.bin .gtr) [.t 7,.c (.int .i64 32)],iz 9 .pick [.t 5,.c (.bool true),.t 8],zm 10 9,gz 10 false 11 .mv [.t 0],gz 10 false 12 .istr [.t 11,.c (.int .i64 0)],gz 10 false 13 (.bin .eql) [.t 12,.c (.int .u8 46)],iz 14 .pick [.t 10,.c (.bool true),.t 13],zm 15 14,gz 15 false 16 .mv [.t 0],gz 15 false 17 .istr [.t 16,.c (.int .i64 0)],gz 15 false 18 (.bin .eql) [.t 17,.c (.int .u8 45)],iz 19 .pick [.t 15,.c (.bool true),.t 18]])
 (.ite (.t 19)
 (.seq (.reg [kz 2 .mv [.c (.bool false)]])
 .ret)
 .skip))
 (.seq (.reg [zm 20 0,zg 21 Fn.q48 [.t 20,.c (.fn Fn.tree_part_1 [])],iz 22 (.un .not) [.t 21],zM 2 22])
 .ret)))
def Ks.q57:List Nat:=[0,1,4]
def Rs.q57:List RV:=[.tmp 4]
def Dl.q57:List (List Nat):=[]
def Mc.q57:MC:=(.seq (.reg [kz 4 .mv [.c (.bool false)]])
 (.seq (.reg [zm 5 0,zm 6 1,zg 7 Fn.q32 [.t 5,.t 6],zM 4 7])
 .ret))
def Ks.q34:List Nat:=[0,1,4,5,7,8]
def Rs.q34:List RV:=[.tmp 4]
def Dl.q34:List (List Nat):=[[5]]
def Mc.q34_L0:MC:=(.seq (.reg [zb 9 .lss 8 7])
 (.seq (.ite (.t 9)
 .skip
 (.exit 0))
 (.seq (.blk 1 (.seq (.reg [zm 10 8,zM 5 10])
 (.seq (.reg [zm 11 1,zm 12 0,zm 13 5,zi 14 1 12 13,zl 15 14,zb 16 .eql 11 15])
 (.ite (.t 16)
 (.seq (.reg [zm 17 5,zM 4 17])
 .ret)
 .skip))))
 (.reg [zc 18 .add 8 1,zM 8 18]))))
def Mc.q34:MC:=(.seq (.reg [kz 4 .mv [.c (.int .i64 0)]])
 (.seq (.seq (.reg [zm 6 0,kz 7 (.len 1) [.t 6],kz 8 .mv [.c (.int .i64 0)]])
 (.blk 0 (.loop [5] Mc.q34_L0)))
 (.seq (.reg [kz 4 .mv [.c (.int .i64 (-1))]])
 .ret)))
def Ks.q25:List Nat:=[0,1,4,5,7,8]
def Rs.q25:List RV:=[.tmp 4]
def Dl.q25:List (List Nat):=[[5]]
def Mc.q25_L0:MC:=(.seq (.reg [zb 9 .lss 8 7])
 (.seq (.ite (.t 9)
 .skip
 (.exit 0))
 (.seq (.blk 1 (.seq (.reg [zm 10 8,zM 5 10])
 (.seq (.reg [zm 11 1,zm 12 0,zm 13 5,zi 14 1 12 13,zl 15 14,iz 16 .callv [.t 11,.t 15]])
 (.ite (.t 16)
 (.seq (.reg [zm 17 5,zM 4 17])
 .ret)
 .skip))))
 (.reg [zc 18 .add 8 1,zM 8 18]))))
def Mc.q25:MC:=(.seq (.reg [kz 4 .mv [.c (.int .i64 0)]])
 (.seq (.seq (.reg [zm 6 0,kz 7 (.len 1) [.t 6],kz 8 .mv [.c (.int .i64 0)]])
 (.blk 0 (.loop [5] Mc.q25_L0)))
 (.seq (.reg [kz 4 .mv [.c (.int .i64 (-1))]])
 .ret)))
def Ks.q48:List Nat:=[0,1,4]
def Rs.q48:List RV:=[.tmp 4]
def Dl.q48:List (List Nat):=[]
def Mc.q48:MC:=(.seq (.reg [kz 4 .mv [.c (.bool false)]])
 (.seq (.reg [zm 5 0,zm 6 1,zg 7 Fn.q58 [.t 5,.t 6],zc 8 .geq 7 0,zM 4 8])
 .ret))
def Ks.tree_part_1:List Nat:=[0,2]
def Rs.tree_part_1:List RV:=[.tmp 2]
def Dl.tree_part_1:List (List Nat):=[]
def Mc.tree_part_1:MC:=(.seq (.reg [kz 2 .mv [.c (.bool false)]])
 (.seq (.reg [zm 3 0,iz 4 (.bin .geq) [.t 3,.c (.int .i32 97)],zm 5 4,gz 5 true 6 .mv [.t 0],gz 5 true 7 (.bin .leq) [.t 6,.c (.int .i32 122)],iz 8 .pick [.t 5,.t 7,.c (.bool false)],zm 9 8,gz 9 false 10 .mv [.t 0],gz 9 false 11 (.bin .geq) [.t 10,.c (.int .i32 48)],gz 9 false 12 .mv [.t 11],gz 12 true 13 .mv [.t 0],gz 12 true 14 (.bin .leq) [.t 13,.c (.int .i32 57)],gz 9 false 15 .pick [.t 12,.t 14,.c (.bool false)],iz 16 .pick [.t 9,.c (.bool true),.t 15],zm 17 16,gz 17 false 18 .mv [.t 0],gz 17 false 19 (.bin .eql) [.t 18,.c (.int .i32 46)],iz 20 .pick [.t 17,.c (.bool true),.t 19],zm 21 20,gz 21 false 22 .mv [.t 0],gz 21 false 23 (.bin .eql) [.t 22,.c (.int .i32 95)],iz 24 .pick [.t 21,.c (.bool true),.t 23],zm 25 24,gz 25 false 26 .mv [.t 0],gz 25 false 27 (.bin .eql) [.t 26,.c (.int .i32 45)],iz 28 .pick [.t 25,.c (.bool true),.t 27],iz 29 (.un .not) [.t 28],zM 2 29])
 .ret))
def Ks.q58:List Nat:=[0,1,4]
def Rs.q58:List RV:=[.tmp 4]
def Dl.q58:List (List Nat):=[]
def Mc.q58:MC:=(.seq (.reg [kz 4 .mv [.c (.int .i64 0)]])
 (.seq (.reg [zm 5 0,zm 6 1,zg 7 Fn.q59 [.t 5,.t 6,.c (.bool true)],zM 4 7])
 .ret))
def Ks.q59:List Nat:=[0,1,2,6,7,8,10,11]
def Rs.q59:List RV:=[.tmp 6]
def Dl.q59:List (List Nat):=[[7,8,11]]
def Mc.q59_L0:MC:=(.seq (.reg [kz 11 .nxt [.t 10],ze 12 0 11])
 (.seq (.ite (.t 12)
 .skip
 (.exit 0))
 (.blk 1 (.seq (.reg [ze 13 1 11,ze 14 2 11,zM 7 13,zM 8 14])
 (.seq (.reg [zm 15 1,zm 16 8,iz 17 .callv [.t 15,.t 16],zm 18 2,iz 19 (.eqB false) [.t 17,.t 18]])
 (.ite (.t 19)
 (.seq (.reg [zm 20 7,zM 6 20])
 .ret)
 .skip))))))
def Mc.q59:MC:=(.seq (.reg [kz 6 .mv [.c (.int .i64 0)]])
 (.seq (.seq (.reg [zm 9 0,kz 10 .rng [.t 9]])
 (.blk 0 (.loop [7,8,11] Mc.q59_L0)))
 (.seq (.reg [kz 6 .mv [.c (.int .i64 (-1))]])
 .ret)))
def Ks.digest_Sum:List Nat:=[0,2,3]
def Rs.digest_Sum:List RV:=[.tmp 2]
def Dl.digest_Sum:List (List Nat):=[]
def Mc.digest_Sum:MC:=(.seq (.reg [kz 2 .mv [.c (.str [])]])
 (.seq (.reg [zg 4 Fn.digest_New [],zM 3 4])
 (.seq (.reg [zm 5 3,zm 6 0,iz 7 (.bsl false 1) [.t 6],zg 8 Fn.q42 [.t 5,.t 7]])
 (.seq (.reg [zm 9 3,zg 10 Fn.q49 [.t 9],zM 2 10])
 .ret))))
def Ks.digest_New:List Nat:=[0]
def Rs.digest_New:List RV:=[.tmp 0]
def Dl.digest_New:List (List Nat):=[]
def Mc.digest_New:MC:=(.seq (.reg [kz 0 .mv [.c (.nilp)]])
 (.seq (.reg [iz 1 (.bld [.int .u64 0,.int .u64 0,.int .u64 0,.int .u64 0,.int .u64 0,.int .u64 0,.int .u64 0,.int .u64 0,.int .u64 0,.int .u64 0,.int .u64 0,.int .u64 0,.int .u64 0,.int .u64 0,.int .u64 0,.int .u64 0,.int .u64 0,.int .u64 0,.int .u64 0,.int .u64 0,.int .u64 0,.int .u64 0,.int .u64 0,.int .u64 0,.int .u64 0,.nils,.int .i64 0,.int .u64 0,.int .u64 0,.int .u64 0,.int .u64 0,.int .u64 0,.int .u64 0,.int .u64 0,.int .u64 0,.int .u64 0,.int .u64 0,.int .u64 0,.int .u64 0,.int .u64 0,.int .u64 0,.int .u64 0,.int .u64 0,.int .u64 0,.int .u64 0,.int .u64 0,.int .u64 0,.int .u64 0,.int .u64 0,.int .u64 0,.int .u64 0,.int .u64 0,.str [],.str []] []) [],iz 2 .box [.t 1],zM 0 2])
 .ret))
def Ks.q42:List Nat:=[0,1,4,6,7,8,9]
def Rs.q42:List RV:=[.tmp 4]
def Dl.q42:List (List Nat):=[[6],[]]
def Ow.__digest_Sponge__Write:List Nat:=[42,49]
def Mc.q42_L1:MC:=(.seq (.seq (.reg [zm 31 0,iz 32 .nilck [.t 31],zf 33 25 32,zl 34 33,zn 35 1 34,zc 36 .geq 35 136])
 (.ite (.t 36)
 .skip
 (.exit 2)))
 (.blk 3 (.seq (.reg [zm 37 0,zm 38 0,iz 39 .nilck [.t 38],zf 40 25 39,zl 41 40,iz 42 (.slcf 1 false true false) [.t 41,.c (.int .i64 136)],zg 43 Fn.q40 [.t 37,.t 42]])
 (.reg [zm 44 0,zm 45 0,iz 46 .nilck [.t 45],zf 47 25 46,zl 48 47,iz 49 (.slcf 1 true false false) [.t 48,.c (.int .i64 136)],iz 50 (.app false 1 1) [.c (.nils),.t 49],iz 51 .nilck [.t 44],zf 52 25 51,zs 1 52 50]))))
def Mc.q42_L0:MC:=(.seq (.reg [zb 10 .lss 9 8])
 (.seq (.ite (.t 10)
 .skip
 (.exit 0))
 (.seq (.blk 1 (.seq (.reg [zi 11 1 7 9,zl 12 11,zM 6 12])
 (.seq (.reg [zm 13 0,iz 14 .nilck [.t 13],zf 15 26 14,zl 16 15,zm 17 6,zn 18 0 17,zb 19 .add 16 18,iz 20 .nilck [.t 13],zf 21 26 20,zs 1 21 19])
 (.seq (.reg [zm 22 0,zm 23 0,iz 24 .nilck [.t 23],zf 25 25 24,zl 26 25,zm 27 6,iz 28 (.app true 1 1) [.t 26,.t 27],iz 29 .nilck [.t 22],zf 30 25 29,zs 1 30 28])
 (.blk 2 (.loop [] Mc.q42_L1))))))
 (.reg [zc 53 .add 9 1,zM 9 53]))))
def Mc.q42:MC:=(.seq (.reg [kz 4 .mv [.c (.int .i64 0)]])
 (.seq (.seq (.reg [zM 7 1,kz 8 (.len 1) [.t 7],kz 9 .mv [.c (.int .i64 0)]])
 (.blk 0 (.loop [6] Mc.q42_L0)))
 (.seq (.reg [zm 54 0,iz 55 .nilck [.t 54],zf 56 26 55,zl 57 56,zM 4 57])
 .ret)))
def Ks.q49:List Nat:=[0,2,3,4,5,6,65,66]
def Rs.q49:List RV:=[.tmp 2]
def Dl.q49:List (List Nat):=[[6]]
def Mc.q49_L0:MC:=(.seq (.reg [zb 67 .lss 66 65])
 (.seq (.ite (.t 67)
 .skip
 (.exit 0))
 (.seq (.blk 1 (.seq (.reg [zm 68 66,zM 6 68])
 (.reg [zm 69 5,zm 70 6,zm 71 3,zm 72 6,zc 73 .quo 72 8,iz 74 .nilck [.t 71],zf 75 0 74,iz 76 (.aadr 25 1) [.t 75,.t 73],zl 77 76,zm 78 6,zc 79 .rem 78 8,iz 80 (.bin .mul) [.c (.int .i64 8),.t 79],zb 81 .shr 77 80,iz 82 (.conv .u8) [.t 81],zi 83 1 69 70,zs 1 83 82])))
 (.reg [zc 84 .add 66 1,zM 66 84]))))
def Mc.q49:MC:=(.seq (.reg [kz 2 .mv [.c (.str [])]])
 (.seq (.seq (.rgd [zm 7 0,iz 8 .nilck [.t 7],zf 9 53 8,zl 10 9,iz 11 (.bin .neq) [.t 10,.c (.str [])],zm 12 11,gz 12 true 13 .mv [.t 0],gz 12 true 14 .nilck [.t 13],gz 12 true 15 (.fadr 27) [.t 14],gz 12 true 16 (.ld 25 true) [.t 15],gz 12 true 17 .mv [.t 0],gz 12 true 18 .nilck [.t 17],gz 12 true 19 (.fadr 0) [.t 18],gz 12 true 20 (.ld 25 true) [.t 19],gz 12 true 21 .bot [],iz 22 .pick [.t 12,.t 21,.c (.bool false)],zm 23 22,gz 23 true 24 .mv [.t 0],gz 23 true 25 .nilck [.t 24],gz 23 true 26 (.fadr 52) [.t 25],gz 23 true 27 (.ld 1 false) [.t 26],gz 23 true 28 .mv [.t 0],gz 23 true 29 .nilck [.t 28],gz 23 true 30 (.fadr 25) [.t 29],gz 23 true 31 (.ld 1 false) [.t 30],gz 23 true 32 .b2s [.t 31],gz 23 true 33 (.bin .eql) [.t 27,.t 32],iz 34 .pick [.t 23,.t 33,.c (.bool false)]])
 (.ite (.t 34)
 (.seq (.reg [zm 35 0,iz 36 .nilck [.t 35],zf 37 53 36,zl 38 37,zM 2 38])
 .ret)
 .skip))
 (.seq (.reg [zm 39 0,zg 40 Fn.q43 [.t 39],zM 3 40])
 (.seq (.reg [iz 41 (.mksl [.int .u8 0] 1) [.c (.int .i64 136),.c (.int .i64 136)],zM 4 41])
 (.seq (.reg [zm 42 4,zm 43 3,iz 44 .nilck [.t 43],zf 45 25 44,zl 46 45,iz 47 (.cpy false 1) [.t 42,.t 46]])
 (.seq (.reg [zm 48 4,zm 49 3,iz 50 .nilck [.t 49],zf 51 25 50,zl 52 51,zn 53 1 52,zi 54 1 48 53,nz (.st 1) [.t 54,.c (.int .u8 6)]])
 (.seq (.reg [zm 55 4,iz 56 (.iadr 1) [.t 55,.c (.int .i64 135)],zl 57 56,iz 58 (.bin .xor) [.t 57,.c (.int .u8 128)],iz 59 (.iadr 1) [.t 55,.c (.int .i64 135)],zs 1 59 58])
 (.seq (.reg [zm 60 3,zm 61 4,zg 62 Fn.q40 [.t 60,.t 61]])
 (.seq (.reg [iz 63 (.mksl [.int .u8 0] 1) [.c (.int .i64 32),.c (.int .i64 32)],zM 5 63])
 (.seq (.seq (.reg [zm 64 5,kz 65 (.len 1) [.t 64],kz 66 .mv [.c (.int .i64 0)]])
 (.blk 0 (.loop [6] Mc.q49_L0)))
 (.seq (.rgd [zm 85 0,zm 86 0,zm 87 0,zm 88 0,iz 89 .nilck [.t 88],zf 90 0 89,zL 91 25 90,zm 92 0,iz 93 .nilck [.t 92],zf 94 25 93,zl 95 94,iz 96 .b2s [.t 95],zm 97 5,iz 98 .b2s [.t 97],iz 99 .nilck [.t 85],zf 100 27 99,zs 25 100 91,iz 101 .nilck [.t 86],zf 102 52 101,zs 1 102 96,iz 103 .nilck [.t 87],zf 104 53 103,zs 1 104 98])
 (.seq (.reg [zm 105 0,iz 106 .nilck [.t 105],zf 107 53 106,zl 108 107,zM 2 108])
 .ret))))))))))))
def Ks.q40:List Nat:=[0,1,4,6,7]
def Rs.q40:List RV:=[]
def Dl.q40:List (List Nat):=[[4]]
def Mc.q40_L0:MC:=(.seq (.reg [zb 8 .lss 7 6])
 (.seq (.ite (.t 8)
 .skip
 (.exit 0))
 (.seq (.blk 1 (.seq (.reg [zm 9 7,zM 4 9])
 (.rgd [zm 10 0,zm 11 4,zc 12 .quo 11 8,iz 13 .nilck [.t 10],zf 14 0 13,iz 15 (.aadr 25 1) [.t 14,.t 12],zl 16 15,zm 17 1,zm 18 4,zi 19 1 17 18,zl 20 19,iz 21 (.conv .u64) [.t 20],zm 22 4,zc 23 .rem 22 8,iz 24 (.bin .mul) [.c (.int .i64 8),.t 23],zb 25 .shl 21 24,zb 26 .xor 16 25,iz 27 .nilck [.t 10],zf 28 0 27,iz 29 (.aadr 25 1) [.t 28,.t 12],zs 1 29 26])))
 (.reg [zc 30 .add 7 1,zM 7 30]))))
def Mc.q40:MC:=(.seq (.seq (.reg [zm 5 1,kz 6 (.len 1) [.t 5],kz 7 .mv [.c (.int .i64 0)]])
 (.blk 0 (.loop [4] Mc.q40_L0)))
 (.reg [zm 31 0,zm 32 0,iz 33 .nilck [.t 32],zf 34 0 33,zL 35 25 34,zg 36 Fn.q75 [.t 35],iz 37 .nilck [.t 31],zf 38 0 37,zs 25 38 36]))
def Ks.q43:List Nat:=[0,2,3]
def Rs.q43:List RV:=[.tmp 2]
def Dl.q43:List (List Nat):=[]
def Mc.q43:MC:=(.seq (.reg [kz 2 .mv [.c (.nilp)]])
 (.seq (.reg [zm 4 0,iz 5 .nilck [.t 4],zL 6 54 5,kz 3 (.alloc [.int .u64 0,.int .u64 0,.int .u64 0,.int .u64 0,.int .u64 0,.int .u64 0,.int .u64 0,.int .u64 0,.int .u64 0,.int .u64 0,.int .u64 0,.int .u64 0,.int .u64 0,.int .u64 0,.int .u64 0,.int .u64 0,.int .u64 0,.int .u64 0,.int .u64 0,.int .u64 0,.int .u64 0,.int .u64 0,.int .u64 0,.int .u64 0,.int .u64 0,.nils,.int .i64 0,.int .u64 0,.int .u64 0,.int .u64 0,.int .u64 0,.int .u64 0,.int .u64 0,.int .u64 0,.int .u64 0,.int .u64 0,.int .u64 0,.int .u64 0,.int .u64 0,.int .u64 0,.int .u64 0,.int .u64 0,.int .u64 0,.int .u64 0,.int .u64 0,.int .u64 0,.int .u64 0,.int .u64 0,.int .u64 0,.int .u64 0,.int .u64 0,.int .u64 0,.str [],.str []]) [],zs 54 3 6])
 (.seq (.reg [zm 7 0,iz 8 .nilck [.t 7],zf 9 25 8,zl 10 9,iz 11 (.app false 1 1) [.c (.nils),.t 10],zf 12 25 3,zs 1 12 11])
 (.seq (.reg [zM 2 3])
 .ret))))
def Ks.q75:List Nat:=[0,1,2,3,5,7,8]
def Rs.q75:List RV:=[.cell 2 25 true]
def Dl.q75:List (List Nat):=[[5]]
def Mc.q75_L0:MC:=(.seq (.reg [zc 9 .lss 8 24])
 (.seq (.ite (.t 9)
 .skip
 (.exit 0))
 (.seq (.blk 1 (.seq (.reg [iz 10 (.iarr 24 1 false) [.t 7,.t 8],zM 5 10])
 (.reg [zL 11 25 1,zL 12 25 3,zm 13 5,zg 14 Fn.q89 [.t 11,.t 12,.t 13],zs 25 1 14])))
 (.reg [zc 15 .add 8 1,zM 8 15]))))
def Mc.q75:MC:=(.seq (.reg [kz 1 .box [.t 0],kz 2 (.alloc [.int .u64 0,.int .u64 0,.int .u64 0,.int .u64 0,.int .u64 0,.int .u64 0,.int .u64 0,.int .u64 0,.int .u64 0,.int .u64 0,.int .u64 0,.int .u64 0,.int .u64 0,.int .u64 0,.int .u64 0,.int .u64 0,.int .u64 0,.int .u64 0,.int .u64 0,.int .u64 0,.int .u64 0,.int .u64 0,.int .u64 0,.int .u64 0,.int .u64 0]) []])
 (.seq (.reg [zg 6 Fn.q76 [],kz 3 (.alloc [.int .i64 0,.int .i64 0,.int .i64 0,.int .i64 0,.int .i64 0,.int .i64 0,.int .i64 0,.int .i64 0,.int .i64 0,.int .i64 0,.int .i64 0,.int .i64 0,.int .i64 0,.int .i64 0,.int .i64 0,.int .i64 0,.int .i64 0,.int .i64 0,.int .i64 0,.int .i64 0,.int .i64 0,.int .i64 0,.int .i64 0,.int .i64 0,.int .i64 0]) [],zs 25 3 6])
 (.seq (.seq (.reg [kz 7 (.call Fn.q64) [],kz 8 .mv [.c (.int .i64 0)]])
 (.blk 0 (.loop [5] Mc.q75_L0)))
 (.seq (.reg [zL 16 25 1,zs 25 2 16])
 .ret))))
def Ks.q76:List Nat:=[0]
def Rs.q76:List RV:=[.cell 0 25 true]
def Dl.q76:List (List Nat):=[]
def Mc.q76:MC:=(.seq (.reg [kz 0 (.alloc [.int .i64 0,.int .i64 0,.int .i64 0,.int .i64 0,.int .i64 0,.int .i64 0,.int .i64 0,.int .i64 0,.int .i64 0,.int .i64 0,.int .i64 0,.int .i64 0,.int .i64 0,.int .i64 0,.int .i64 0,.int .i64 0,.int .i64 0,.int .i64 0,.int .i64 0,.int .i64 0,.int .i64 0,.int .i64 0,.int .i64 0,.int .i64 0,.int .i64 0]) []])
 (.seq (.reg [iz 1 (.bld [.int .i64 0,.int .i64 0,.int .i64 0,.int .i64 0,.int .i64 0,.int .i64 0,.int .i64 0,.int .i64 0,.int .i64 0,.int .i64 0,.int .i64 0,.int .i64 0,.int .i64 0,.int .i64 0,.int .i64 0,.int .i64 0,.int .i64 0,.int .i64 0,.int .i64 0,.int .i64 0,.int .i64 0,.int .i64 0,.int .i64 0,.int .i64 0,.int .i64 0] [(0,1),(1,1),(2,1),(3,1),(4,1),(5,1),(6,1),(7,1),(8,1),(9,1),(10,1),(11,1),(12,1),(13,1),(14,1),(15,1),(16,1),(17,1),(18,1),(19,1),(20,1),(21,1),(22,1),(23,1),(24,1)]) [.c (.int .i64 0),.c (.int .i64 1),.c (.int .i64 62),.c (.int .i64 28),.c (.int .i64 27),.c (.int .i64 36),.c (.int .i64 44),.c (.int .i64 6),.c (.int .i64 55),.c (.int .i64 20),.c (.int .i64 3),.c (.int .i64 10),.c (.int .i64 43),.c (.int .i64 25),.c (.int .i64 39),.c (.int .i64 41),.c (.int .i64 45),.c (.int .i64 15),.c (.int .i64 21),.c (.int .i64 8),.c (.int .i64 18),.c (.int .i64 2),.c (.int .i64 61),.c (.int .i64 56),.c (.int .i64 14)],zs 25 0 1])
 .ret))
def Ks.q64:List Nat:=[0]
def Rs.q64:List RV:=[.cell 0 24 true]
def Dl.q64:List (List Nat):=[]
def Mc.q64:MC:=(.seq (.reg [kz 0 (.alloc [.int .u64 0,.int .u64 0,.int .u64 0,.int .u64 0,.int .u64 0,.int .u64 0,.int .u64 0,.int .u64 0,.int .u64 0,.int .u64 0,.int .u64 0,.int .u64 0,.int .u64 0,.int .u64 0,.int .u64 0,.int .u64 0,.int .u64 0,.int .u64 0,.int .u64 0,.int .u64 0,.int .u64 0,.int .u64 0,.int .u64 0,.int .u64 0]) []])
 (.seq (.reg [iz 1 (.bld [.int .u64 0,.int .u64 0,.int .u64 0,.int .u64 0,.int .u64 0,.int .u64 0,.int .u64 0,.int .u64 0,.int .u64 0,.int .u64 0,.int .u64 0,.int .u64 0,.int .u64 0,.int .u64 0,.int .u64 0,.int .u64 0,.int .u64 0,.int .u64 0,.int .u64 0,.int .u64 0,.int .u64 0,.int .u64 0,.int .u64 0,.int .u64 0] [(0,1),(1,1),(2,1),(3,1),(4,1),(5,1),(6,1),(7,1),(8,1),(9,1),(10,1),(11,1),(12,1),(13,1),(14,1),(15,1),(16,1),(17,1),(18,1),(19,1),(20,1),(21,1),(22,1),(23,1)]) [.c (.int .u64 1),.c (.int .u64 32898),.c (.int .u64 9223372036854808714),.c (.int .u64 9223372039002292224),.c (.int .u64 32907),.c (.int .u64 2147483649),.c (.int .u64 9223372039002292353),.c (.int .u64 9223372036854808585),.c (.int .u64 138),.c (.int .u64 136),.c (.int .u64 2147516425),.c (.int .u64 2147483658),.c (.int .u64 2147516555),.c (.int .u64 9223372036854775947),.c (.int .u64 9223372036854808713),.c (.int .u64 9223372036854808579),.c (.int .u64 9223372036854808578),.c (.int .u64 9223372036854775936),.c (.int .u64 32778),.c (.int .u64 9223372039002259466),.c (.int .u64 9223372039002292353),.c (.int .u64 9223372036854808704),.c (.int .u64 2147483649),.c (.int .u64 9223372039002292232)],zs 24 0 1])
 .ret))
def Ks.q89:List Nat:=[0,1,2,3,4,6,7,8,9,10,11,12,13,14,15,16,17,18,30,31,69]
def Rs.q89:List RV:=[.cell 6 25 true]
def Dl.q89:List (List Nat):=[[8,9],[11,12,13,14],[15,16]]
def Mc.q89_L0:MC:=(.seq (.reg [zc 19 .lss 18 25])
 (.seq (.ite (.t 19)
 .skip
 (.exit 0))
 (.seq (.blk 1 (.seq (.reg [zm 20 18,iz 21 (.iarr 25 1 false) [.t 17,.t 18],zM 8 20,zM 9 21])
 (.reg [zm 22 8,zc 23 .rem 22 5,iz 24 (.aadr 5 1) [.t 7,.t 23],zl 25 24,zm 26 9,zb 27 .xor 25 26,iz 28 (.aadr 5 1) [.t 7,.t 23],zs 1 28 27])))
 (.reg [zc 29 .add 18 1,zM 18 29]))))
def Mc.q89_L1:MC:=(.seq (.reg [zc 32 .lss 31 25])
 (.seq (.ite (.t 32)
 .skip
 (.exit 2))
 (.seq (.blk 3 (.seq (.reg [zm 33 31,iz 34 (.iarr 25 1 false) [.t 30,.t 31],zM 11 33,zM 12 34])
 (.seq (.reg [zm 35 11,zc 36 .rem 35 5,zm 37 11,zc 38 .quo 37 5,zM 13 36,zM 14 38])
 (.seq (.rgd [zm 39 12,zm 40 13,zc 41 .add 40 4,zc 42 .rem 41 5,iz 43 (.aadr 5 1) [.t 7,.t 42],zl 44 43,zm 45 13,zc 46 .add 45 1,zc 47 .rem 46 5,iz 48 (.aadr 5 1) [.t 7,.t 47],zl 49 48,zg 50 Fn.q44 [.t 49,.c (.int .i64 1)],zb 51 .xor 44 50,zb 52 .xor 39 51,zM 12 52])
 (.reg [zm 53 14,zm 54 13,iz 55 (.bin .mul) [.c (.int .i64 2),.t 54],zm 56 14,iz 57 (.bin .mul) [.c (.int .i64 3),.t 56],zb 58 .add 55 57,zc 59 .rem 58 5,iz 60 (.bin .mul) [.c (.int .i64 5),.t 59],zb 61 .add 53 60,zm 62 12,zm 63 11,iz 64 (.aadr 25 1) [.t 4,.t 63],zl 65 64,zg 66 Fn.q44 [.t 62,.t 65],iz 67 (.aadr 25 1) [.t 10,.t 61],zs 1 67 66])))))
 (.reg [zc 68 .add 31 1,zM 31 68]))))
def Mc.q89_L2:MC:=(.seq (.reg [zc 70 .lss 69 25])
 (.seq (.ite (.t 70)
 .skip
 (.exit 4))
 (.seq (.blk 5 (.seq (.reg [zm 71 69,zM 15 71])
 (.seq (.reg [zm 72 15,zm 73 15,zc 74 .rem 73 5,zb 75 .sub 72 74,zM 16 75])
 (.rgd [zm 76 15,zm 77 15,iz 78 (.aadr 25 1) [.t 10,.t 77],zl 79 78,zm 80 16,zm 81 15,zc 82 .add 81 1,zc 83 .rem 82 5,zb 84 .add 80 83,iz 85 (.aadr 25 1) [.t 10,.t 84],zl 86 85,iz 87 (.un .xor) [.t 86],zm 88 16,zm 89 15,zc 90 .add 89 2,zc 91 .rem 90 5,zb 92 .add 88 91,iz 93 (.aadr 25 1) [.t 10,.t 92],zl 94 93,zb 95 .and 87 94,zb 96 .xor 79 95,iz 97 (.aadr 25 1) [.t 3,.t 76],zs 1 97 96]))))
 (.reg [zc 98 .add 69 1,zM 69 98]))))
def Mc.q89:MC:=(.seq (.reg [kz 3 .box [.t 0],kz 4 .box [.t 1],kz 6 (.alloc [.int .u64 0,.int .u64 0,.int .u64 0,.int .u64 0,.int .u64 0,.int .u64 0,.int .u64 0,.int .u64 0,.int .u64 0,.int .u64 0,.int .u64 0,.int .u64 0,.int .u64 0,.int .u64 0,.int .u64 0,.int .u64 0,.int .u64 0,.int .u64 0,.int .u64 0,.int .u64 0,.int .u64 0,.int .u64 0,.int .u64 0,.int .u64 0,.int .u64 0]) []])
 (.seq (.reg [kz 7 (.alloc [.int .u64 0,.int .u64 0,.int .u64 0,.int .u64 0,.int .u64 0]) []])
 (.seq (.seq (.reg [kz 17 (.ld 25 true) [.t 3],kz 18 .mv [.c (.int .i64 0)]])
 (.blk 0 (.loop [8,9] Mc.q89_L0)))
 (.seq (.reg [kz 10 (.alloc [.int .u64 0,.int .u64 0,.int .u64 0,.int .u64 0,.int .u64 0,.int .u64 0,.int .u64 0,.int .u64 0,.int .u64 0,.int .u64 0,.int .u64 0,.int .u64 0,.int .u64 0,.int .u64 0,.int .u64 0,.int .u64 0,.int .u64 0,.int .u64 0,.int .u64 0,.int .u64 0,.int .u64 0,.int .u64 0,.int .u64 0,.int .u64 0,.int .u64 0]) []])
 (.seq (.seq (.reg [kz 30 (.ld 25 true) [.t 3],kz 31 .mv [.c (.int .i64 0)]])
 (.blk 2 (.loop [11,12,13,14] Mc.q89_L1)))
 (.seq (.seq (.reg [kz 69 .mv [.c (.int .i64 0)]])
 (.blk 4 (.loop [15,16] Mc.q89_L2)))
 (.seq (.reg [iz 99 (.aadr 25 1) [.t 3,.c (.int .i64 0)],zl 100 99,zm 101 2,zb 102 .xor 100 101,iz 103 (.aadr 25 1) [.t 3,.c (.int .i64 0)],zs 1 103 102])
 (.seq (.reg [zL 104 25 3,zs 25 6 104])
 .ret))))))))
def Ks.q44:List Nat:=[0,1,4,5]
def Rs.q44:List RV:=[.tmp 4]
def Dl.q44:List (List Nat):=[]
def Mc.q44:MC:=(.seq (.reg [kz 4 .mv [.c (.int .u64 0)]])
 (.seq (.reg [zm 6 1,iz 7 (.conv .u64) [.t 6],iz 8 (.bin .and) [.t 7,.c (.int .u64 63)],zM 5 8])
 (.seq (.reg [zm 9 0,zm 10 5,zb 11 .shl 9 10,zm 12 0,zm 13 5,iz 14 (.bin .sub) [.c (.int .u64 64),.t 13],zb 15 .shr 12 14,zb 16 .or 11 15,zM 4 16])
 .ret)))
end Go.Proofs.YtpefhfiehfkocaaGreatDoor
