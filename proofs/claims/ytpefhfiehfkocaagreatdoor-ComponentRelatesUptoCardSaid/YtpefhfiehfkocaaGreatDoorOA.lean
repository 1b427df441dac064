/- The functions of origins and of line sets,resolved: by program (Gen.lean). Flows of a tracer and their sort,resolved: by program (Gen.lean). -/
import Derived.Test.YtpefhfiehfkocaaGreatDoorRecMc
namespace Go.Proofs.YtpefhfiehfkocaaGreatDoor
def Ks.q45:List Nat:=[0,1,2]
def Rs.q45:List RV:=[.tmp 2]
def Dl.q45:List (List Nat):=[]
def Mc.q45:MC:=(.seq (.reg [kz 1 .box [.t 0],kz 2 .mv [.c (.bool false)]])
 (.seq (.reg [zf 3 0 1,zl 4 3,zg 5 Fn.q68 [.t 4],zm 6 5,gz 6 true 7 (.fadr 1) [.t 1],gz 6 true 8 (.ld 1 false) [.t 7],gz 6 true 9 (.call Fn.q68) [.t 8],iz 10 .pick [.t 6,.t 9,.c (.bool false)],zm 11 10,gz 11 true 12 (.fadr 2) [.t 1],gz 11 true 13 (.ld 1 false) [.t 12],gz 11 true 14 (.call Fn.q68) [.t 13],iz 15 .pick [.t 11,.t 14,.c (.bool false)],zM 2 15])
 .ret))
def Ks.q85:List Nat:=[0,1,2,3,4,5]
def Rs.q85:List RV:=[.cell 4 3 true,.tmp 5]
def Dl.q85:List (List Nat):=[]
def Mc.q85:MC:=(.seq (.reg [kz 2 .box [.t 0],kz 3 .box [.t 1],kz 4 (.alloc [.nils,.nils,.nils]) [],kz 5 .mv [.c (.int .i64 0)]])
 (.seq (.seq (.reg [zL 6 3 2,zg 7 Fn.q87 [.t 6],iz 8 (.un .not) [.t 7],zm 9 8,gz 9 false 10 (.ld 3 true) [.t 3],gz 9 false 11 (.call Fn.q87) [.t 10],gz 9 false 12 (.un .not) [.t 11],iz 13 .pick [.t 9,.c (.bool true),.t 12]])
 (.ite (.t 13)
  (.seq (.reg [iz 14 (.bld [.nils,.nils,.nils] []) [],zs 3 4 14,kz 5 .mv [.c (.int .i64 1)]])
  .ret)
  .skip))
 (.seq (.rgd [zf 15 0 2,zl 16 15,zf 17 0 3,zl 18 17,iz 19 (.bsl false 1) [.t 16,.t 18],zg 20 Fn.q88 [.t 19],zf 21 1 2,zl 22 21,zf 23 1 3,zl 24 23,iz 25 (.bsl false 1) [.t 22,.t 24],zg 26 Fn.q88 [.t 25],zf 27 2 2,zl 28 27,zf 29 2 3,zl 30 29,iz 31 (.bsl false 1) [.t 28,.t 30],zg 32 Fn.q88 [.t 31],iz 33 (.bld [.nils,.nils,.nils] [(0,1),(1,1),(2,1)]) [.t 20,.t 26,.t 32],zs 3 4 33,kz 5 .mv [.c (.int .i64 0)]])
 .ret)))
def Ks.q70:List Nat:=[0,1,2,4,5,10]
def Rs.q70:List RV:=[.cell 4 3 true,.tmp 5]
def Dl.q70:List (List Nat):=[]
def Mc.q70:MC:=(.seq (.reg [kz 2 .box [.t 0],kz 4 (.alloc [.nils,.nils,.nils]) [],kz 5 .mv [.c (.int .i64 0)]])
 (.seq (.seq (.reg [zL 6 3 2,zg 7 Fn.q87 [.t 6],iz 8 (.un .not) [.t 7]])
 (.ite (.t 8)
  (.seq (.reg [iz 9 (.bld [.nils,.nils,.nils] []) [],zs 3 4 9,kz 5 .mv [.c (.int .i64 1)]])
  .ret)
  .skip))
 (.seq (.seq (.reg [zM 10 1])
 (.blk 0 (.seq (.reg [zc 12 .eql 10 1,zm 11 12])
 (.ite (.t 11)
  (.seq (.rgd [zf 13 0 2,zl 14 13,iz 15 (.bsl false 1) [.t 14],zg 16 Fn.q88 [.t 15],zf 17 1 2,zl 18 17,iz 19 (.bsl false 1) [.t 18],zg 20 Fn.q88 [.t 19],zf 21 2 2,zl 22 21,iz 23 (.bsl false 1) [.t 22],zg 24 Fn.q88 [.t 23],iz 25 (.bld [.nils,.nils,.nils] [(0,1),(1,1),(2,1)]) [.t 16,.t 20,.t 24],zs 3 4 25,kz 5 .mv [.c (.int .i64 0)]])
  .ret)
  (.seq (.reg [zc 27 .eql 10 2,zm 26 27])
  (.ite (.t 26)
   (.seq (.reg [zf 28 0 2,zl 29 28,zf 30 1 2,zl 31 30,zf 32 2 2,zl 33 32,iz 34 (.bsl false 1) [.t 29,.t 31,.t 33],zg 35 Fn.q88 [.t 34],iz 36 (.bld [.nils,.nils,.nils] [(1,1)]) [.t 35],zs 3 4 36,kz 5 .mv [.c (.int .i64 0)]])
   .ret)
   (.seq (.reg [zc 38 .eql 10 3,zm 37 38])
   (.ite (.t 37)
    (.seq (.rgd [zf 39 1 2,zl 40 39,iz 41 (.bsl false 1) [.t 40],zg 42 Fn.q88 [.t 41],zf 43 0 2,zl 44 43,zf 45 2 2,zl 46 45,iz 47 (.bsl false 1) [.t 44,.t 46],zg 48 Fn.q88 [.t 47],iz 49 (.bld [.nils,.nils,.nils] [(1,1),(2,1)]) [.t 42,.t 48],zs 3 4 49,kz 5 .mv [.c (.int .i64 0)]])
    .ret)
    .skip))))))))
 (.seq (.reg [iz 50 (.bld [.nils,.nils,.nils] []) [],zs 3 4 50,kz 5 .mv [.c (.int .i64 3)]])
 .ret))))
def Ks.q87:List Nat:=[0,1,2]
def Rs.q87:List RV:=[.tmp 2]
def Dl.q87:List (List Nat):=[]
def Mc.q87:MC:=(.seq (.reg [kz 1 .box [.t 0],kz 2 .mv [.c (.bool false)]])
 (.seq (.reg [zf 3 0 1,zl 4 3,zg 5 Fn.q81 [.t 4],zm 6 5,gz 6 true 7 (.fadr 1) [.t 1],gz 6 true 8 (.ld 1 false) [.t 7],gz 6 true 9 (.call Fn.q81) [.t 8],iz 10 .pick [.t 6,.t 9,.c (.bool false)],zm 11 10,gz 11 true 12 (.fadr 2) [.t 1],gz 11 true 13 (.ld 1 false) [.t 12],gz 11 true 14 (.call Fn.q81) [.t 13],iz 15 .pick [.t 11,.t 14,.c (.bool false)],zM 2 15])
 .ret))
def Ks.q68:List Nat:=[0,2,3]
def Rs.q68:List RV:=[.tmp 2]
def Dl.q68:List (List Nat):=[[]]
def Mc.q68_L0:MC:=(.seq (.seq (.reg [zm 7 3,zm 8 0,zn 9 1 8,zb 10 .lss 7 9])
 (.ite (.t 10)
  .skip
  (.exit 0)))
 (.seq (.blk 1 (.seq (.reg [zm 13 0,zm 14 3,zi 15 3 13 14,zf 16 0 15,zl 17 16,zn 18 0 17,zc 19 .gtr 18 200])
 (.ite (.t 19)
  (.seq (.reg [kz 2 .mv [.c (.bool false)]])
  .ret)
  .skip)))
 (.reg [zm 11 3,zc 12 .add 11 1,zM 3 12])))
def Mc.q68:MC:=(.seq (.reg [kz 2 .mv [.c (.bool false)]])
 (.seq (.seq (.reg [zm 4 0,zn 5 1 4,zc 6 .gtr 5 12])
 (.ite (.t 6)
  (.seq (.reg [kz 2 .mv [.c (.bool false)]])
  .ret)
  .skip))
 (.seq (.seq (.reg [kz 3 .mv [.c (.int .i64 0)]])
 (.blk 0 (.loop [] Mc.q68_L0)))
 (.seq (.reg [kz 2 .mv [.c (.bool true)]])
 .ret))))
def Ks.q88:List Nat:=[0,2,3,5,6,7,8]
def Rs.q88:List RV:=[.tmp 2]
def Dl.q88:List (List Nat):=[[5]]
def Mc.q88_L0:MC:=(.seq (.reg [zb 9 .lss 8 7])
 (.seq (.ite (.t 9)
  .skip
  (.exit 0))
 (.seq (.blk 1 (.seq (.reg [zi 10 1 6 8,zl 11 10,zM 5 11])
 (.reg [zm 13 3,zm 14 5,zg 15 Fn.q82 [.t 13,.t 14],zm 12 15,ze 16 0 12,ze 17 1 12,zM 3 16])))
 (.reg [zc 18 .add 8 1,zM 8 18]))))
def Mc.q88:MC:=(.seq (.reg [kz 2 (.newnil 3) []])
 (.seq (.reg [kz 3 (.newnil 3) []])
 (.seq (.seq (.reg [zM 6 0,kz 7 (.len 1) [.t 6],kz 8 .mv [.c (.int .i64 0)]])
 (.blk 0 (.loop [5] Mc.q88_L0)))
 (.seq (.reg [zm 19 3,zM 2 19])
 .ret))))
def Ks.q81:List Nat:=[0,2,3,4,5,6,7]
def Rs.q81:List RV:=[.tmp 2]
def Dl.q81:List (List Nat):=[[3,4]]
def Mc.q81_L0:MC:=(.seq (.reg [zb 8 .lss 7 6])
 (.seq (.ite (.t 8)
  .skip
  (.exit 0))
 (.seq (.blk 1 (.seq (.reg [zm 9 7,zi 10 3 5 7,zL 11 3 10,kz 4 (.alloc [.str [],.int .i64 0,.int .i64 0]) [],zM 3 9,zs 3 4 11])
 (.seq (.rgd [zL 12 3 4,zg 13 Fn.q72 [.t 12],iz 14 (.un .not) [.t 13],zm 15 14,gz 15 false 16 .mv [.t 3],gz 15 false 17 (.bin .gtr) [.t 16,.c (.int .i64 0)],gz 15 false 18 .mv [.t 17],gz 18 true 19 .mv [.t 0],gz 18 true 20 .mv [.t 3],gz 18 true 21 (.bin .sub) [.t 20,.c (.int .i64 1)],gz 18 true 22 (.iadr 3) [.t 19,.t 21],gz 18 true 23 (.ld 3 true) [.t 22],gz 18 true 24 (.ld 3 true) [.t 4],gz 18 true 25 (.call Fn.q74) [.t 23,.t 24],gz 18 true 26 (.un .not) [.t 25],gz 15 false 27 .pick [.t 18,.t 26,.c (.bool false)],iz 28 .pick [.t 15,.c (.bool true),.t 27],zm 29 28,gz 29 false 30 (.fadr 0) [.t 4],gz 29 false 31 (.ld 1 false) [.t 30],gz 29 false 32 (.call Fn.tree_Path) [.t 31],gz 29 false 33 (.bin .neq) [.t 32,.c (.int .i64 0)],iz 34 .pick [.t 29,.c (.bool true),.t 33]])
 (.ite (.t 34)
  (.seq (.reg [kz 2 .mv [.c (.bool false)]])
  .ret)
  .skip))))
 (.reg [zc 35 .add 7 1,zM 7 35]))))
def Mc.q81:MC:=(.seq (.reg [kz 2 .mv [.c (.bool false)]])
 (.seq (.seq (.reg [zM 5 0,kz 6 (.len 1) [.t 5],kz 7 .mv [.c (.int .i64 0)]])
 (.blk 0 (.loop [3,4] Mc.q81_L0)))
 (.seq (.reg [kz 2 .mv [.c (.bool true)]])
 .ret)))
def Ks.q14:List Nat:=[0,1,4]
def Rs.q14:List RV:=[.tmp 4]
def Dl.q14:List (List Nat):=[]
def Mc.q14:MC:=(.seq (.reg [kz 4 .mv [.c (.bool false)]])
 (.seq (.reg [zm 5 0,zm 6 1,zg 7 Fn.q18 [.t 5,.t 6],zc 8 .geq 7 0,zM 4 8])
 .ret))
def Ks.q82:List Nat:=[0,1,4,5]
def Rs.q82:List RV:=[.tmp 4,.tmp 5]
def Dl.q82:List (List Nat):=[]
def Mc.q82:MC:=(.seq (.reg [kz 4 (.newnil 3) [],kz 5 .mv [.c (.int .i64 0)]])
 (.seq (.seq (.reg [zm 6 0,zg 7 Fn.q81 [.t 6],iz 8 (.un .not) [.t 7],zm 9 8,gz 9 false 10 .mv [.t 1],gz 9 false 11 (.call Fn.q81) [.t 10],gz 9 false 12 (.un .not) [.t 11],iz 13 .pick [.t 9,.c (.bool true),.t 12]])
 (.ite (.t 13)
  (.seq (.reg [kz 4 (.newnil 3) [],kz 5 .mv [.c (.int .i64 1)]])
  .ret)
  .skip))
 (.seq (.reg [zm 14 0,zm 15 1,iz 16 (.bsl false 1) [.t 14,.t 15],zg 17 Fn.q26 [.t 16],zg 18 Fn.q83 [.t 17],zM 4 18,kz 5 .mv [.c (.int .i64 0)]])
 .ret)))
def Ks.q72:List Nat:=[0,1,2]
def Rs.q72:List RV:=[.tmp 2]
def Dl.q72:List (List Nat):=[]
def Mc.q72:MC:=(.seq (.reg [kz 1 .box [.t 0],kz 2 .mv [.c (.bool false)]])
 (.seq (.reg [zf 3 1 1,zl 4 3,iz 5 (.bin .leq) [.c (.int .i64 0),.t 4],zm 6 5,gz 6 true 7 (.fadr 1) [.t 1],gz 6 true 8 (.ld 1 false) [.t 7],gz 6 true 9 (.fadr 2) [.t 1],gz 6 true 10 (.ld 1 false) [.t 9],gz 6 true 11 (.bin .lss) [.t 8,.t 10],iz 12 .pick [.t 6,.t 11,.c (.bool false)],zm 13 12,gz 13 true 14 (.fadr 2) [.t 1],gz 13 true 15 (.ld 1 false) [.t 14],gz 13 true 16 (.bin .leq) [.t 15,.c (.int .i64 1024)],iz 17 .pick [.t 13,.t 16,.c (.bool false)],zM 2 17])
 .ret))
def Ks.q74:List Nat:=[0,1,2,3,4]
def Rs.q74:List RV:=[.tmp 4]
def Dl.q74:List (List Nat):=[]
def Mc.q74:MC:=(.seq (.reg [kz 2 .box [.t 0],kz 3 .box [.t 1],kz 4 .mv [.c (.bool false)]])
 (.seq (.reg [zf 5 0 2,zl 6 5,zf 7 0 3,zl 8 7,zb 9 .lss 6 8,zm 10 9,gz 10 false 11 (.fadr 0) [.t 2],gz 10 false 12 (.ld 1 false) [.t 11],gz 10 false 13 (.fadr 0) [.t 3],gz 10 false 14 (.ld 1 false) [.t 13],gz 10 false 15 (.bin .eql) [.t 12,.t 14],gz 10 false 16 .mv [.t 15],gz 16 true 17 (.fadr 2) [.t 2],gz 16 true 18 (.ld 1 false) [.t 17],gz 16 true 19 (.fadr 1) [.t 3],gz 16 true 20 (.ld 1 false) [.t 19],gz 16 true 21 (.bin .lss) [.t 18,.t 20],gz 10 false 22 .pick [.t 16,.t 21,.c (.bool false)],iz 23 .pick [.t 10,.c (.bool true),.t 22],zM 4 23])
 .ret))
def Ks.q83:List Nat:=[0,2,3,5,6,9,10,11]
def Rs.q83:List RV:=[.tmp 2]
def Dl.q83:List (List Nat):=[[5,6]]
def Mc.q83_L0:MC:=(.seq (.reg [zb 12 .lss 11 10])
 (.seq (.ite (.t 12)
  .skip
  (.exit 0))
 (.seq (.blk 1 (.seq (.reg [zi 13 3 9 11,zL 14 3 13,kz 5 (.alloc [.str [],.int .i64 0,.int .i64 0]) [],zs 3 5 14])
 (.seq (.reg [zm 15 3,zn 16 1 15,zc 17 .sub 16 1,zM 6 17])
 (.seq (.rgd [zm 18 6,zc 19 .geq 18 0,zm 20 19,gz 20 true 21 .mv [.t 3],gz 20 true 22 .mv [.t 6],gz 20 true 23 (.iadr 3) [.t 21,.t 22],gz 20 true 24 (.ld 3 true) [.t 23],gz 20 true 25 (.ld 3 true) [.t 5],gz 20 true 26 (.call Fn.q74) [.t 24,.t 25],gz 20 true 27 (.un .not) [.t 26],iz 28 .pick [.t 20,.t 27,.c (.bool false)]])
 (.ite (.t 28)
  (.rgd [zm 29 3,zm 30 6,zm 31 3,zm 32 6,zi 33 3 31 32,zf 34 2 33,zl 35 34,zf 36 2 5,zl 37 36,iz 38 .max [.t 35,.t 37],zi 39 3 29 30,zf 40 2 39,zs 1 40 38])
  (.reg [zm 41 3,zL 42 3 5,iz 43 (.bsl false 3) [.t 42],iz 44 (.app false 3 32) [.t 41,.t 43],zM 3 44]))))))
 (.reg [zc 45 .add 11 1,zM 11 45]))))
def Mc.q83:MC:=(.seq (.reg [kz 2 (.newnil 3) []])
 (.seq (.reg [zm 7 0,zg 8 Fn.q21 [.t 7,.c (.fn Fn.q66 [])]])
 (.seq (.reg [kz 3 (.newnil 3) []])
 (.seq (.seq (.reg [zM 9 0,kz 10 (.len 1) [.t 9],kz 11 .mv [.c (.int .i64 0)]])
 (.blk 0 (.loop [5,6] Mc.q83_L0)))
 (.seq (.reg [zm 46 3,zM 2 46])
 .ret)))))
def Ks.q26:List Nat:=[0,2,3,5,6,8,9,10,11,25,26,27]
def Rs.q26:List RV:=[.tmp 2]
def Dl.q26:List (List Nat):=[[5],[8]]
def Mc.q26_L0:MC:=(.seq (.reg [zb 12 .lss 11 10])
 (.seq (.ite (.t 12)
  .skip
  (.exit 0))
 (.seq (.blk 1 (.seq (.reg [zi 13 1 9 11,zl 14 13,zM 5 14])
 (.seq (.reg [zm 15 3,zm 16 5,zn 17 1 16,zb 18 .add 15 17,zM 3 18])
 (.seq (.reg [zm 19 3,zc 20 .lss 19 0])
 (.ite (.t 20)
  (.reg [iz 21 (.mkif 9) [.c (.str [108,101,110,32,111,117,116,32,111,102,32,114,97,110,103,101])],nz .bot []])
  .skip)))))
 (.reg [zc 22 .add 11 1,zM 11 22]))))
def Mc.q26_L1:MC:=(.seq (.reg [zb 28 .lss 27 26])
 (.seq (.ite (.t 28)
  .skip
  (.exit 2))
 (.seq (.blk 3 (.seq (.reg [zi 29 1 25 27,zl 30 29,zM 8 30])
 (.reg [zm 31 6,zm 32 8,iz 33 (.app false 3 32) [.t 31,.t 32],zM 6 33])))
 (.reg [zc 34 .add 27 1,zM 27 34]))))
def Mc.q26:MC:=(.seq (.reg [kz 2 (.newnil 3) []])
 (.seq (.reg [kz 3 .mv [.c (.int .i64 0)]])
 (.seq (.seq (.reg [zM 9 0,kz 10 (.len 1) [.t 9],kz 11 .mv [.c (.int .i64 0)]])
 (.blk 0 (.loop [5] Mc.q26_L0)))
 (.seq (.reg [zm 23 3,zg 24 Fn.q31 [.c (.nils),.t 23],zM 6 24])
 (.seq (.seq (.reg [zM 25 0,kz 26 (.len 1) [.t 25],kz 27 .mv [.c (.int .i64 0)]])
 (.blk 2 (.loop [8] Mc.q26_L1)))
 (.seq (.reg [zm 35 6,zM 2 35])
 .ret))))))
def Ks.q18:List Nat:=[0,1,4,5,7,8]
def Rs.q18:List RV:=[.tmp 4]
def Dl.q18:List (List Nat):=[[5]]
def Mc.q18_L0:MC:=(.seq (.reg [zb 9 .lss 8 7])
 (.seq (.ite (.t 9)
  .skip
  (.exit 0))
 (.seq (.blk 1 (.seq (.reg [zm 10 8,zM 5 10])
 (.seq (.reg [zm 11 1,zm 12 0,zm 13 5,zi 14 3 12 13,zL 15 3 14,iz 16 .callv [.t 11,.t 15]])
 (.ite (.t 16)
  (.seq (.reg [zm 17 5,zM 4 17])
  .ret)
  .skip))))
 (.reg [zc 18 .add 8 1,zM 8 18]))))
def Mc.q18:MC:=(.seq (.reg [kz 4 .mv [.c (.int .i64 0)]])
 (.seq (.seq (.reg [zm 6 0,kz 7 (.len 1) [.t 6],kz 8 .mv [.c (.int .i64 0)]])
 (.blk 0 (.loop [5] Mc.q18_L0)))
 (.seq (.reg [kz 4 .mv [.c (.int .i64 (-1))]])
 .ret)))
def Ks.cmp_Or_int_:List Nat:=[0,2,3,5,6,7,8]
def Rs.cmp_Or_int_:List RV:=[.tmp 2]
def Dl.cmp_Or_int_:List (List Nat):=[[5]]
def Mc.cmp_Or_int__L0:MC:=(.seq (.reg [zb 9 .lss 8 7])
 (.seq (.ite (.t 9)
  .skip
  (.exit 0))
 (.seq (.blk 1 (.seq (.reg [zi 10 1 6 8,zl 11 10,zM 5 11])
 (.seq (.reg [zm 12 5,zm 13 3,zb 14 .neq 12 13])
 (.ite (.t 14)
  (.seq (.reg [zm 15 5,zM 2 15])
  .ret)
  .skip))))
 (.reg [zc 16 .add 8 1,zM 8 16]))))
def Mc.cmp_Or_int_:MC:=(.seq (.reg [kz 2 .mv [.c (.int .i64 0)]])
 (.seq (.reg [kz 3 .mv [.c (.int .i64 0)]])
 (.seq (.seq (.reg [zM 6 0,kz 7 (.len 1) [.t 6],kz 8 .mv [.c (.int .i64 0)]])
 (.blk 0 (.loop [5] Mc.cmp_Or_int__L0)))
 (.seq (.reg [zm 17 3,zM 2 17])
 .ret))))
def Ks.q63:List Nat:=[0,1,4,5,6]
def Rs.q63:List RV:=[.tmp 4]
def Dl.q63:List (List Nat):=[]
def Mc.q63:MC:=(.seq (.reg [kz 4 .mv [.c (.int .i64 0)]])
 (.seq (.reg [zm 7 0,zg 8 Fn.q73 [.t 7],zM 5 8])
 (.seq (.reg [zm 9 1,zg 10 Fn.q73 [.t 9],zM 6 10])
 (.seq (.seq (.reg [zm 11 5])
 (.ite (.t 11)
  (.seq (.seq (.reg [zm 12 6])
  (.ite (.t 12)
   (.seq (.reg [kz 4 .mv [.c (.int .i64 0)]])
   .ret)
   .skip))
  (.seq (.reg [kz 4 .mv [.c (.int .i64 (-1))]])
  .ret))
  .skip))
 (.seq (.seq (.reg [zm 13 6])
 (.ite (.t 13)
  (.seq (.reg [kz 4 .mv [.c (.int .i64 1)]])
  .ret)
  .skip))
 (.seq (.seq (.reg [zm 14 0,zm 15 1,zb 16 .lss 14 15])
 (.ite (.t 16)
  (.seq (.reg [kz 4 .mv [.c (.int .i64 (-1))]])
  .ret)
  .skip))
 (.seq (.seq (.reg [zm 17 0,zm 18 1,zb 19 .gtr 17 18])
 (.ite (.t 19)
  (.seq (.reg [kz 4 .mv [.c (.int .i64 1)]])
  .ret)
  .skip))
 (.seq (.reg [kz 4 .mv [.c (.int .i64 0)]])
 .ret))))))))
def Ks.q73:List Nat:=[0,2]
def Rs.q73:List RV:=[.tmp 2]
def Dl.q73:List (List Nat):=[]
def Mc.q73:MC:=(.seq (.reg [kz 2 .mv [.c (.bool false)]])
 (.seq (.reg [zm 3 0,zm 4 0,zb 5 .neq 3 4,zM 2 5])
 .ret))
end Go.Proofs.YtpefhfiehfkocaaGreatDoor
namespace Go.Proofs.YtpefhfiehfkocaaGreatDoor
def Ks.q39:List Nat:=[0,1,2,3,4,5]
def Rs.q39:List RV:=[.tmp 5]
def Dl.q39:List (List Nat):=[]
def Mc.q39:MC:=(.seq (.reg [kz 3 .box [.t 0],kz 4 .box [.t 1],kz 5 .mv [.c (.int .i64 0)]])
 (.seq (.rgd [zl 6 2,zf 7 0 3,zL 8 4 7,iz 9 (.lookA [.s,.s,.i,.i] false (.int .i64 0)) [.t 6,.t 8],zl 10 2,zf 11 0 4,zL 12 4 11,iz 13 (.lookA [.s,.s,.i,.i] false (.int .i64 0)) [.t 10,.t 12],zg 14 Fn.q63 [.t 9,.t 13],zf 15 4 3,zL 16 4 15,zf 17 4 4,zL 18 4 17,zg 19 Fn.q71 [.t 16,.t 18],zf 20 8 3,zl 21 20,zf 22 8 4,zl 23 22,zg 24 Fn.q63 [.t 21,.t 23],iz 25 (.bsl false 1) [.t 14,.t 19,.t 24],zg 26 Fn.cmp_Or_int_ [.t 25],zM 5 26])
 .ret))
def Ks.q71:List Nat:=[0,1,2,3,4]
def Rs.q71:List RV:=[.tmp 4]
def Dl.q71:List (List Nat):=[]
def Mc.q71:MC:=(.seq (.reg [kz 2 .box [.t 0],kz 3 .box [.t 1],kz 4 .mv [.c (.int .i64 0)]])
 (.seq (.seq (.reg [zL 5 4 2,zL 6 4 3,iz 7 (.eqA false [.s,.s,.i,.i]) [.t 5,.t 6]])
 (.ite (.t 7)
  (.seq (.reg [kz 4 .mv [.c (.int .i64 0)]])
  .ret)
  .skip))
 (.seq (.rgd [zf 8 0 2,zl 9 8,zf 10 0 3,zl 11 10,zg 12 Fn.q65 [.t 9,.t 11],zf 13 1 2,zl 14 13,zf 15 1 3,zl 16 15,zg 17 Fn.q65 [.t 14,.t 16],zf 18 2 2,zl 19 18,zf 20 2 3,zl 21 20,zg 22 Fn.q63 [.t 19,.t 21],zf 23 3 2,zl 24 23,zf 25 3 3,zl 26 25,zg 27 Fn.q63 [.t 24,.t 26],iz 28 (.bsl false 1) [.t 12,.t 17,.t 22,.t 27],zg 29 Fn.cmp_Or_int_ [.t 28],zM 4 29])
 .ret)))
def Ks.q20:List Nat:=[0,1,4]
def Rs.q20:List RV:=[]
def Dl.q20:List (List Nat):=[]
def Mc.q20:MC:=(.seq (.reg [zm 5 0,zn 6 1 5,zM 4 6])
 (.reg [zm 7 0,zm 8 4,zm 9 4,iz 10 (.conv .u64) [.t 9],zg 11 Fn.q77 [.t 10],zm 12 1,zg 13 Fn.q30 [.t 7,.c (.int .i64 0),.t 8,.t 11,.t 12]]))
def Ks.q30:List Nat:=[0,1,2,3,4,10,11,12,13,14,15,16,17,18,19,20]
def Rs.q30:List RV:=[]
def Dl.q30:List (List Nat):=[[12,13,14,15,16,17,18,19,20]]
def Mc.q30_L0:MC:=(.blk 1 (.seq (.reg [zm 21 2,zm 22 1,zb 23 .sub 21 22,zM 12 23])
 (.seq (.seq (.reg [zm 24 12,zc 25 .leq 24 12])
 (.ite (.t 25)
  (.seq (.reg [zm 26 0,zm 27 1,zm 28 2,zm 29 4,zg 30 Fn.q16 [.t 26,.t 27,.t 28,.t 29]])
  .ret)
  .skip))
 (.seq (.seq (.reg [zm 31 3,zc 32 .eql 31 0])
 (.ite (.t 32)
  (.seq (.reg [zm 33 0,zm 34 1,zm 35 2,zm 36 4,zg 37 Fn.q29 [.t 33,.t 34,.t 35,.t 36]])
  .ret)
  .skip))
 (.seq (.seq (.reg [zm 38 10,iz 39 (.un .not) [.t 38]])
 (.ite (.t 39)
  (.seq (.reg [zm 40 0,zm 41 1,zm 42 2,zm 43 4,zg 44 Fn.q17 [.t 40,.t 41,.t 42,.t 43]])
  (.reg [zm 45 3,zc 46 .sub 45 1,zM 3 46]))
  .skip))
 (.seq (.reg [zm 48 0,zm 49 1,zm 50 2,zm 51 4,zg 52 Fn.q23 [.t 48,.t 49,.t 50,.t 51],zm 47 52,ze 53 0 47,ze 54 1 47,zM 13 53,zM 14 54])
 (.seq (.seq (.reg [zm 55 14,zc 56 .eql 55 2])
 (.ite (.t 56)
  (.seq (.reg [zm 57 0,zm 58 1,zm 59 2,zm 60 4,zg 61 Fn.q22 [.t 57,.t 58,.t 59,.t 60]])
  (.seq (.reg [zm 62 2,zc 63 .sub 62 1,zm 64 13,zm 65 1,zb 66 .sub 64 65,zb 67 .sub 63 66,zM 13 67])
  (.reg [kz 14 .mv [.c (.int .i64 1)]])))
  .skip))
 (.seq (.seq (.reg [zm 68 10,zm 69 68,gz 69 true 70 .mv [.t 11],iz 71 .pick [.t 69,.t 70,.c (.bool false)],zm 72 71,gz 72 true 73 .mv [.t 14],gz 72 true 74 (.bin .eql) [.t 73,.c (.int .i64 1)],iz 75 .pick [.t 72,.t 74,.c (.bool false)]])
 (.ite (.t 75)
  (.seq (.reg [zm 76 0,zm 77 1,zm 78 2,zm 79 4,zg 80 Fn.q10 [.t 76,.t 77,.t 78,.t 79]])
  (.ite (.t 80)
   .ret
   .skip))
  .skip))
 (.seq (.seq (.rgd [zm 81 1,zc 82 .gtr 81 0,zm 83 82,gz 83 true 84 .mv [.t 4],gz 83 true 85 .mv [.t 0],gz 83 true 86 .mv [.t 1],gz 83 true 87 (.bin .sub) [.t 86,.c (.int .i64 1)],gz 83 true 88 (.iadr 9) [.t 85,.t 87],gz 83 true 89 (.ld 9 true) [.t 88],gz 83 true 90 .mv [.t 0],gz 83 true 91 .mv [.t 13],gz 83 true 92 (.iadr 9) [.t 90,.t 91],gz 83 true 93 (.ld 9 true) [.t 92],gz 83 true 94 .callv [.t 84,.t 89,.t 93],gz 83 true 95 (.bin .lss) [.t 94,.c (.int .i64 0)],gz 83 true 96 (.un .not) [.t 95],iz 97 .pick [.t 83,.t 96,.c (.bool false)]])
 (.ite (.t 97)
  (.seq (.reg [zm 98 0,zm 99 1,zm 100 2,zm 101 13,zm 102 4,zg 103 Fn.q15 [.t 98,.t 99,.t 100,.t 101,.t 102],zM 15 103])
  (.seq (.reg [zm 104 15,zM 1 104])
  (.exit 1)))
  .skip))
 (.seq (.reg [zm 106 0,zm 107 1,zm 108 2,zm 109 13,zm 110 4,zg 111 Fn.q27 [.t 106,.t 107,.t 108,.t 109,.t 110],zm 105 111,ze 112 0 105,ze 113 1 105,zM 16 112,zM 17 113])
 (.seq (.reg [zm 114 17,zM 11 114])
 (.seq (.reg [zm 115 16,zm 116 1,zb 117 .sub 115 116,zm 118 2,zm 119 16,zb 120 .sub 118 119,zM 18 117,zM 19 120])
 (.seq (.reg [zm 121 12,zc 122 .quo 121 8,zM 20 122])
 (.seq (.reg [zm 123 18,zm 124 19,zb 125 .lss 123 124])
 (.ite (.t 125)
  (.seq (.reg [zm 126 18,zm 127 20,zb 128 .geq 126 127,zM 10 128])
  (.seq (.reg [zm 129 0,zm 130 1,zm 131 16,zm 132 3,zm 133 4,zg 134 Fn.q30 [.t 129,.t 130,.t 131,.t 132,.t 133]])
  (.reg [zm 135 16,zc 136 .add 135 1,zM 1 136])))
  (.seq (.reg [zm 137 19,zm 138 20,zb 139 .geq 137 138,zM 10 139])
  (.seq (.reg [zm 140 0,zm 141 16,zc 142 .add 141 1,zm 143 2,zm 144 3,zm 145 4,zg 146 Fn.q30 [.t 140,.t 142,.t 143,.t 144,.t 145]])
  (.reg [zm 147 16,zM 2 147]))))))))))))))))))
def Mc.q30:MC:=(.seq (.reg [kz 10 .mv [.c (.bool true)]])
 (.seq (.reg [kz 11 .mv [.c (.bool true)]])
 (.blk 0 (.loop [12,13,14,15,16,17,18,19,20] Mc.q30_L0))))
def Ks.q16:List Nat:=[0,1,2,3,8,9]
def Rs.q16:List RV:=[]
def Dl.q16:List (List Nat):=[[9],[]]
def Mc.q16_L1:MC:=(.seq (.seq (.rgd [zm 18 9,zm 19 1,zb 20 .gtr 18 19,zm 21 20,gz 21 true 22 .mv [.t 3],gz 21 true 23 .mv [.t 0],gz 21 true 24 .mv [.t 9],gz 21 true 25 (.iadr 9) [.t 23,.t 24],gz 21 true 26 (.ld 9 true) [.t 25],gz 21 true 27 .mv [.t 0],gz 21 true 28 .mv [.t 9],gz 21 true 29 (.bin .sub) [.t 28,.c (.int .i64 1)],gz 21 true 30 (.iadr 9) [.t 27,.t 29],gz 21 true 31 (.ld 9 true) [.t 30],gz 21 true 32 .callv [.t 22,.t 26,.t 31],gz 21 true 33 (.bin .lss) [.t 32,.c (.int .i64 0)],iz 34 .pick [.t 21,.t 33,.c (.bool false)]])
 (.ite (.t 34)
  .skip
  (.exit 2)))
 (.seq (.blk 3 (.rgd [zm 37 0,zm 38 9,zm 39 0,zm 40 9,zc 41 .sub 40 1,zm 42 0,zm 43 9,zc 44 .sub 43 1,zi 45 9 42 44,zL 46 9 45,zm 47 0,zm 48 9,zi 49 9 47 48,zL 50 9 49,zi 51 9 37 38,zs 9 51 46,zi 52 9 39 41,zs 9 52 50]))
 (.reg [zm 35 9,zc 36 .sub 35 1,zM 9 36])))
def Mc.q16_L0:MC:=(.seq (.seq (.reg [zm 12 8,zm 13 2,zb 14 .lss 12 13])
 (.ite (.t 14)
  .skip
  (.exit 0)))
 (.seq (.blk 1 (.seq (.reg [zm 17 8,zM 9 17])
 (.blk 2 (.loop [] Mc.q16_L1))))
 (.reg [zm 15 8,zc 16 .add 15 1,zM 8 16])))
def Mc.q16:MC:=(.seq (.reg [zm 10 1,zc 11 .add 10 1,zM 8 11])
 (.blk 0 (.loop [9] Mc.q16_L0)))
end Go.Proofs.YtpefhfiehfkocaaGreatDoor
