/- The functions of origins and of line sets,resolved: by program (Gen.lean). Flows of a tracer and their sort,resolved: by program (Gen.lean). -/
import Derived.Test.YtbfcbkjemlgnpaaGreatDoorRecMc
namespace Go.Proofs.YtbfcbkjemlgnpaaGreatDoor
def Ks.q49:List Nat:=[0,1,2,3,4,5,7,8,9,10,11,12,13,14,15,16,17,18,19,20]
def Rs.q49:List RV:=[.tmp 8]
def Dl.q49:List (List Nat):=[]
def Mc.q49:MC:=(.seq (.reg [kz 4 .box [.t 0],kz 5 .box [.t 1],kz 7 .box [.t 3],kz 8 .mv [.c (.bool false)]])
 (.seq (.seq (.reg [zg 21 Fn.q70 [],iz 22 (.un .not) [.t 21]])
 (.ite (.t 22)
  (.seq (.reg [kz 8 .mv [.c (.bool false)]])
  .ret)
  .skip))
 (.seq (.seq (.reg [zL 23 3 4,zg 24 Fn.q51 [.t 23],iz 25 (.un .not) [.t 24],zm 26 25,gz 26 false 27 (.ld 3 true) [.t 5],gz 26 false 28 (.call Fn.q51) [.t 27],gz 26 false 29 (.un .not) [.t 28],iz 30 .pick [.t 26,.c (.bool true),.t 29],zm 31 30,gz 31 false 32 (.fadr 0) [.t 7],gz 31 false 33 (.ld 1 false) [.t 32],gz 31 false 34 (.len 0) [.t 33],gz 31 false 35 (.bin .gtr) [.t 34,.c (.int .i64 200)],iz 36 .pick [.t 31,.c (.bool true),.t 35]])
 (.ite (.t 36)
  (.seq (.reg [kz 8 .mv [.c (.bool true)]])
  .ret)
  .skip))
 (.seq (.reg [zL 38 3 4,zL 39 3 5,zg 40 Fn.q108 [.t 38,.t 39],zm 37 40,ze 41 0 37,ze 42 1 37,kz 9 (.alloc [.nils,.nils,.nils]) [],zs 3 9 41,zM 10 42])
 (.seq (.reg [zL 44 3 4,zL 45 3 5,zg 46 Fn.q71 [.t 44,.t 45],zm 43 46,ze 47 0 43,ze 48 1 43,kz 11 (.alloc [.nils,.nils,.nils]) [],zs 3 11 47,zM 12 48])
 (.seq (.reg [zL 50 3 4,zm 51 2,zg 52 Fn.q89 [.t 50,.t 51],zm 49 52,ze 53 0 49,ze 54 1 49,kz 13 (.alloc [.nils,.nils,.nils]) [],zs 3 13 53,zM 14 54])
 (.seq (.reg [zL 56 3 4,zm 57 2,zg 58 Fn.q60 [.t 56,.t 57],zm 55 58,ze 59 0 55,ze 60 1 55,kz 15 (.alloc [.nils,.nils,.nils]) [],zs 3 15 59,zM 16 60])
 (.seq (.reg [zL 62 3 4,zg 63 Fn.origin_All [.t 62],zm 61 63,ze 64 0 61,ze 65 1 61,zM 17 64,zM 18 65])
 (.seq (.reg [zL 67 3 4,zg 68 Fn.q90 [.t 67],zm 66 68,ze 69 0 66,ze 70 1 66,zM 19 69,zM 20 70])
 (.seq (.rgd [zL 71 3 4,zg 72 Fn.q109 [.t 71],zL 73 3 4,zg 74 Fn.q72 [.t 73],iz 75 (.eqB false) [.t 72,.t 74],zm 76 75,gz 76 true 77 .mv [.t 10],gz 76 true 78 .mv [.t 12],gz 76 true 79 (.bin .eql) [.t 77,.t 78],iz 80 .pick [.t 76,.t 79,.c (.bool false)],zm 81 80,gz 81 true 82 (.ld 3 true) [.t 9],gz 81 true 83 (.ld 3 true) [.t 11],gz 81 true 84 (.call Fn.q50) [.t 82,.t 83],iz 85 .pick [.t 81,.t 84,.c (.bool false)],zm 86 85,gz 86 true 87 .mv [.t 14],gz 86 true 88 .mv [.t 16],gz 86 true 89 (.bin .eql) [.t 87,.t 88],iz 90 .pick [.t 86,.t 89,.c (.bool false)],zm 91 90,gz 91 true 92 (.ld 3 true) [.t 13],gz 91 true 93 (.ld 3 true) [.t 15],gz 91 true 94 (.call Fn.q50) [.t 92,.t 93],iz 95 .pick [.t 91,.t 94,.c (.bool false)],zm 96 95,gz 96 true 97 .mv [.t 18],gz 96 true 98 .mv [.t 20],gz 96 true 99 (.bin .eql) [.t 97,.t 98],iz 100 .pick [.t 96,.t 99,.c (.bool false)],zm 101 100,gz 101 true 102 .mv [.t 17],gz 101 true 103 .mv [.t 19],gz 101 true 104 (.call Fn.q24) [.t 102,.t 103],iz 105 .pick [.t 101,.t 104,.c (.bool false)],zm 106 105,gz 106 true 107 (.ld 3 true) [.t 4],gz 106 true 108 (.ld 2 true) [.t 7],gz 106 true 109 (.call Fn.q99) [.t 107,.t 108],gz 106 true 110 (.ld 3 true) [.t 4],gz 106 true 111 (.ld 2 true) [.t 7],gz 106 true 112 (.call Fn.q62) [.t 110,.t 111],gz 106 true 113 (.call Fn.q38) [.t 109,.t 112],iz 114 .pick [.t 106,.t 113,.c (.bool false)],zM 8 114])
 .ret))))))))))
def Ks.q37:List Nat:=[0,1,2,3,4,5,6,7,8,9,10,11,12,13,14,15,16,17,19,21,23,24,25,26,27,28,113,114,115,119,120,121,140,141,142]
def Rs.q37:List RV:=[.tmp 6]
def Dl.q37:List (List Nat):=[[19,21,119,120,121],[21],[23,24,25,26,27,28],[]]
def Mc.q37_L1:MC:=(.seq (.reg [zb 122 .lss 121 120])
 (.seq (.ite (.t 122)
  .skip
  (.exit 2))
 (.seq (.blk 3 (.seq (.reg [zi 123 3 119 121,zL 124 3 123,kz 21 (.alloc [.str [],.int .i64 0,.int .i64 0]) [],zs 3 21 124])
 (.reg [zm 125 17,zf 126 0 21,zl 127 126,zf 128 1 21,zl 129 128,iz 130 (.bld [.str [],.int .i64 0] [(0,1),(1,1)]) [.t 127,.t 129],zf 131 0 21,zl 132 131,zf 133 2 21,zl 134 133,iz 135 (.bld [.str [],.int .i64 0] [(0,1),(1,1)]) [.t 132,.t 134],iz 136 (.bsl false 2) [.t 130,.t 135],iz 137 (.app false 2 24) [.t 125,.t 136],zM 17 137])))
 (.reg [zc 138 .add 121 1,zM 121 138]))))
def Mc.q37_L0:MC:=(.seq (.reg [zb 116 .lss 115 114])
 (.seq (.ite (.t 116)
  .skip
  (.exit 0))
 (.seq (.blk 1 (.seq (.reg [zi 117 1 113 115,zl 118 117,zM 19 118])
 (.seq (.reg [zM 119 19,kz 120 (.len 1) [.t 119],kz 121 .mv [.c (.int .i64 0)]])
 (.blk 2 (.loop [21] Mc.q37_L1)))))
 (.reg [zc 139 .add 115 1,zM 115 139]))))
def Mc.q37_L3:MC:=(.seq (.seq (.reg [zm 155 27,zc 156 .leq 155 3])
 (.ite (.t 156)
  .skip
  (.exit 6)))
 (.seq (.blk 7 (.seq (.reg [zm 159 26,zm 160 27,zg 161 Fn.q31 [.t 159,.t 160],zm 162 24,zm 163 27,zg 164 Fn.q31 [.t 162,.t 163],zm 165 164,gz 165 false 166 .mv [.t 25],gz 165 false 167 .mv [.t 27],gz 165 false 168 (.call Fn.q31) [.t 166,.t 167],iz 169 .pick [.t 165,.c (.bool true),.t 168],iz 170 (.eqB true) [.t 161,.t 169]])
 (.ite (.t 170)
  (.seq (.reg [kz 6 .mv [.c (.bool false)]])
  .ret)
  .skip)))
 (.reg [zm 157 27,zc 158 .add 157 1,zM 27 158])))
def Mc.q37_L2:MC:=(.seq (.reg [zb 143 .lss 142 141])
 (.seq (.ite (.t 143)
  .skip
  (.exit 4))
 (.seq (.blk 5 (.seq (.reg [zi 144 2 140 142,zL 145 2 144,kz 23 (.alloc [.str [],.int .i64 0]) [],zs 2 23 145])
 (.seq (.rgd [zL 146 3 3,zL 147 2 23,zg 148 Fn.q99 [.t 146,.t 147],zL 149 3 4,zL 150 2 23,zg 151 Fn.q99 [.t 149,.t 150],zL 152 3 7,zL 153 2 23,zg 154 Fn.q99 [.t 152,.t 153],zM 24 148,zM 25 151,zM 26 154])
 (.seq (.seq (.reg [kz 27 .mv [.c (.int .i64 1)]])
 (.blk 6 (.loop [] Mc.q37_L3)))
 (.seq (.reg [zm 171 24,zn 172 1 171,zc 173 .gtr 172 0,zM 28 173])
 (.seq (.reg [zm 174 9,zL 175 2 23,zg 176 Fn.lineset_Has [.t 174,.t 175],zm 177 28,iz 178 (.eqB true) [.t 176,.t 177],zm 179 178,gz 179 false 180 .mv [.t 28],gz 179 false 181 (.ld 3 true) [.t 11],gz 179 false 182 (.ld 2 true) [.t 23],gz 179 false 183 (.call Fn.q99) [.t 181,.t 182],gz 179 false 184 (.len 1) [.t 183],gz 179 false 185 (.bin .eql) [.t 184,.c (.int .i64 1)],gz 179 false 186 .mv [.t 185],gz 186 true 187 (.ld 3 true) [.t 11],gz 186 true 188 (.ld 2 true) [.t 23],gz 186 true 189 (.call Fn.q99) [.t 187,.t 188],gz 186 true 190 (.iadr 1) [.t 189,.c (.int .i64 0)],gz 186 true 191 (.ld 1 false) [.t 190],gz 186 true 192 (.bin .eql) [.t 191,.c (.int .i64 2)],gz 179 false 193 .pick [.t 186,.t 192,.c (.bool false)],gz 179 false 194 (.eqB true) [.t 180,.t 193],iz 195 .pick [.t 179,.c (.bool true),.t 194],zm 196 195,gz 196 false 197 .mv [.t 28],gz 196 false 198 (.ld 3 true) [.t 13],gz 196 false 199 (.ld 2 true) [.t 23],gz 196 false 200 (.call Fn.q99) [.t 198,.t 199],gz 196 false 201 (.len 1) [.t 200],gz 196 false 202 (.bin .gtr) [.t 201,.c (.int .i64 0)],gz 196 false 203 (.eqB true) [.t 197,.t 202],iz 204 .pick [.t 196,.c (.bool true),.t 203],zm 205 204,gz 205 false 206 (.ld 3 true) [.t 13],gz 205 false 207 (.ld 2 true) [.t 23],gz 205 false 208 (.call Fn.q99) [.t 206,.t 207],gz 205 false 209 (.call Fn.q31) [.t 208,.c (.int .i64 1)],iz 210 .pick [.t 205,.c (.bool true),.t 209]])
 (.ite (.t 210)
  (.seq (.reg [kz 6 .mv [.c (.bool false)]])
  .ret)
  .skip)))))))
 (.reg [zc 211 .add 142 1,zM 142 211]))))
def Mc.q37:MC:=(.seq (.reg [kz 3 .box [.t 0],kz 4 .box [.t 1],kz 5 .box [.t 2],kz 6 .mv [.c (.bool false)]])
 (.seq (.seq (.reg [zg 29 Fn.q70 [],iz 30 (.un .not) [.t 29]])
 (.ite (.t 30)
  (.seq (.reg [kz 6 .mv [.c (.bool false)]])
  .ret)
  .skip))
 (.seq (.seq (.reg [zL 31 3 3,zg 32 Fn.q51 [.t 31],iz 33 (.un .not) [.t 32],zm 34 33,gz 34 false 35 (.ld 3 true) [.t 4],gz 34 false 36 (.call Fn.q51) [.t 35],gz 34 false 37 (.un .not) [.t 36],iz 38 .pick [.t 34,.c (.bool true),.t 37],zm 39 38,gz 39 false 40 (.ld 3 true) [.t 3],gz 39 false 41 (.call Fn.q109) [.t 40],gz 39 false 42 (.un .not) [.t 41],iz 43 .pick [.t 39,.c (.bool true),.t 42],zm 44 43,gz 44 false 45 (.ld 3 true) [.t 4],gz 44 false 46 (.call Fn.q109) [.t 45],gz 44 false 47 (.un .not) [.t 46],iz 48 .pick [.t 44,.c (.bool true),.t 47]])
 (.ite (.t 48)
  (.seq (.reg [kz 6 .mv [.c (.bool true)]])
  .ret)
  .skip))
 (.seq (.reg [zL 50 3 3,zL 51 3 4,zg 52 Fn.q108 [.t 50,.t 51],zm 49 52,ze 53 0 49,ze 54 1 49,kz 7 (.alloc [.nils,.nils,.nils]) [],zs 3 7 53,zM 8 54])
 (.seq (.reg [zL 56 3 3,zg 57 Fn.origin_All [.t 56],zm 55 57,ze 58 0 55,ze 59 1 55,zM 9 58,zM 10 59])
 (.seq (.reg [zL 61 3 3,zg 62 Fn.q89 [.t 61,.c (.int .i64 2)],zm 60 62,ze 63 0 60,ze 64 1 60,kz 11 (.alloc [.nils,.nils,.nils]) [],zs 3 11 63,zM 12 64])
 (.seq (.reg [zL 66 3 3,zg 67 Fn.q89 [.t 66,.c (.int .i64 3)],zm 65 67,ze 68 0 65,ze 69 1 65,kz 13 (.alloc [.nils,.nils,.nils]) [],zs 3 13 68,zM 14 69])
 (.seq (.reg [zL 71 3 3,zg 72 Fn.q89 [.t 71,.c (.int .i64 1)],zm 70 72,ze 73 0 70,ze 74 1 70,kz 15 (.alloc [.nils,.nils,.nils]) [],zs 3 15 73,zM 16 74])
 (.seq (.seq (.reg [zm 75 8,zc 76 .neq 75 0,zm 77 76,gz 77 false 78 .mv [.t 10],gz 77 false 79 (.bin .neq) [.t 78,.c (.int .i64 0)],iz 80 .pick [.t 77,.c (.bool true),.t 79],zm 81 80,gz 81 false 82 .mv [.t 12],gz 81 false 83 (.bin .neq) [.t 82,.c (.int .i64 0)],iz 84 .pick [.t 81,.c (.bool true),.t 83],zm 85 84,gz 85 false 86 .mv [.t 14],gz 85 false 87 (.bin .neq) [.t 86,.c (.int .i64 0)],iz 88 .pick [.t 85,.c (.bool true),.t 87],zm 89 88,gz 89 false 90 .mv [.t 16],gz 89 false 91 (.bin .neq) [.t 90,.c (.int .i64 0)],iz 92 .pick [.t 89,.c (.bool true),.t 91],zm 93 92,gz 93 false 94 (.ld 3 true) [.t 15],gz 93 false 95 (.ld 3 true) [.t 3],gz 93 false 96 (.call Fn.q50) [.t 94,.t 95],gz 93 false 97 (.un .not) [.t 96],iz 98 .pick [.t 93,.c (.bool true),.t 97]])
 (.ite (.t 98)
  (.seq (.reg [kz 6 .mv [.c (.bool false)]])
  .ret)
  .skip))
 (.seq (.reg [zL 99 2 5,iz 100 (.bsl false 2) [.t 99],zM 17 100])
 (.seq (.seq (.reg [zf 101 0 3,zl 102 101,zf 103 1 3,zl 104 103,zf 105 2 3,zl 106 105,zf 107 0 4,zl 108 107,zf 109 1 4,zl 110 109,zf 111 2 4,zl 112 111,kz 113 (.bsl false 1) [.t 102,.t 104,.t 106,.t 108,.t 110,.t 112],kz 114 (.len 1) [.t 113],kz 115 .mv [.c (.int .i64 0)]])
 (.blk 0 (.loop [19,21,119,120,121] Mc.q37_L0)))
 (.seq (.seq (.reg [zM 140 17,kz 141 (.len 1) [.t 140],kz 142 .mv [.c (.int .i64 0)]])
 (.blk 4 (.loop [23,24,25,26,27,28] Mc.q37_L2)))
 (.seq (.reg [kz 6 .mv [.c (.bool true)]])
 .ret)))))))))))))
def Ks.q51:List Nat:=[0,1,2]
def Rs.q51:List RV:=[.tmp 2]
def Dl.q51:List (List Nat):=[]
def Mc.q51:MC:=(.seq (.reg [kz 1 .box [.t 0],kz 2 .mv [.c (.bool false)]])
 (.seq (.reg [zf 3 0 1,zl 4 3,zg 5 Fn.q91 [.t 4],zm 6 5,gz 6 true 7 (.fadr 1) [.t 1],gz 6 true 8 (.ld 1 false) [.t 7],gz 6 true 9 (.call Fn.q91) [.t 8],iz 10 .pick [.t 6,.t 9,.c (.bool false)],zm 11 10,gz 11 true 12 (.fadr 2) [.t 1],gz 11 true 13 (.ld 1 false) [.t 12],gz 11 true 14 (.call Fn.q91) [.t 13],iz 15 .pick [.t 11,.t 14,.c (.bool false)],zM 2 15])
 .ret))
def Ks.q108:List Nat:=[0,1,2,3,4,5]
def Rs.q108:List RV:=[.cell 4 3 true,.tmp 5]
def Dl.q108:List (List Nat):=[]
def Mc.q108:MC:=(.seq (.reg [kz 2 .box [.t 0],kz 3 .box [.t 1],kz 4 (.alloc [.nils,.nils,.nils]) [],kz 5 .mv [.c (.int .i64 0)]])
 (.seq (.seq (.reg [zL 6 3 2,zg 7 Fn.q109 [.t 6],iz 8 (.un .not) [.t 7],zm 9 8,gz 9 false 10 (.ld 3 true) [.t 3],gz 9 false 11 (.call Fn.q109) [.t 10],gz 9 false 12 (.un .not) [.t 11],iz 13 .pick [.t 9,.c (.bool true),.t 12]])
 (.ite (.t 13)
  (.seq (.reg [iz 14 (.bld [.nils,.nils,.nils] []) [],zs 3 4 14,kz 5 .mv [.c (.int .i64 1)]])
  .ret)
  .skip))
 (.seq (.rgd [zf 15 0 2,zl 16 15,zf 17 0 3,zl 18 17,iz 19 (.bsl false 1) [.t 16,.t 18],zg 20 Fn.q110 [.t 19],zf 21 1 2,zl 22 21,zf 23 1 3,zl 24 23,iz 25 (.bsl false 1) [.t 22,.t 24],zg 26 Fn.q110 [.t 25],zf 27 2 2,zl 28 27,zf 29 2 3,zl 30 29,iz 31 (.bsl false 1) [.t 28,.t 30],zg 32 Fn.q110 [.t 31],iz 33 (.bld [.nils,.nils,.nils] [(0,1),(1,1),(2,1)]) [.t 20,.t 26,.t 32],zs 3 4 33,kz 5 .mv [.c (.int .i64 0)]])
 .ret)))
def Ks.q71:List Nat:=[0,1,2,3,4,5]
def Rs.q71:List RV:=[.cell 4 3 true,.tmp 5]
def Dl.q71:List (List Nat):=[]
def Mc.q71:MC:=(.seq (.reg [kz 2 .box [.t 0],kz 3 .box [.t 1],kz 4 (.alloc [.nils,.nils,.nils]) [],kz 5 .mv [.c (.int .i64 0)]])
 (.seq (.seq (.reg [zL 6 3 2,zg 7 Fn.q72 [.t 6],iz 8 (.un .not) [.t 7],zm 9 8,gz 9 false 10 (.ld 3 true) [.t 3],gz 9 false 11 (.call Fn.q72) [.t 10],gz 9 false 12 (.un .not) [.t 11],iz 13 .pick [.t 9,.c (.bool true),.t 12]])
 (.ite (.t 13)
  (.seq (.reg [iz 14 (.bld [.nils,.nils,.nils] []) [],zs 3 4 14,kz 5 .mv [.c (.int .i64 1)]])
  .ret)
  .skip))
 (.seq (.reg [zL 15 3 2,zL 16 3 3,zg 17 Fn.q79 [.t 15,.t 16],zs 3 4 17,kz 5 .mv [.c (.int .i64 0)]])
 .ret)))
def Ks.q89:List Nat:=[0,1,2,4,5,10]
def Rs.q89:List RV:=[.cell 4 3 true,.tmp 5]
def Dl.q89:List (List Nat):=[]
def Mc.q89:MC:=(.seq (.reg [kz 2 .box [.t 0],kz 4 (.alloc [.nils,.nils,.nils]) [],kz 5 .mv [.c (.int .i64 0)]])
 (.seq (.seq (.reg [zL 6 3 2,zg 7 Fn.q109 [.t 6],iz 8 (.un .not) [.t 7]])
 (.ite (.t 8)
  (.seq (.reg [iz 9 (.bld [.nils,.nils,.nils] []) [],zs 3 4 9,kz 5 .mv [.c (.int .i64 1)]])
  .ret)
  .skip))
 (.seq (.seq (.reg [zM 10 1])
 (.blk 0 (.seq (.reg [zc 12 .eql 10 1,zm 11 12])
 (.ite (.t 11)
  (.seq (.rgd [zf 13 0 2,zl 14 13,iz 15 (.bsl false 1) [.t 14],zg 16 Fn.q110 [.t 15],zf 17 1 2,zl 18 17,iz 19 (.bsl false 1) [.t 18],zg 20 Fn.q110 [.t 19],zf 21 2 2,zl 22 21,iz 23 (.bsl false 1) [.t 22],zg 24 Fn.q110 [.t 23],iz 25 (.bld [.nils,.nils,.nils] [(0,1),(1,1),(2,1)]) [.t 16,.t 20,.t 24],zs 3 4 25,kz 5 .mv [.c (.int .i64 0)]])
  .ret)
  (.seq (.reg [zc 27 .eql 10 2,zm 26 27])
  (.ite (.t 26)
   (.seq (.reg [zf 28 0 2,zl 29 28,zf 30 1 2,zl 31 30,zf 32 2 2,zl 33 32,iz 34 (.bsl false 1) [.t 29,.t 31,.t 33],zg 35 Fn.q110 [.t 34],iz 36 (.bld [.nils,.nils,.nils] [(1,1)]) [.t 35],zs 3 4 36,kz 5 .mv [.c (.int .i64 0)]])
   .ret)
   (.seq (.reg [zc 38 .eql 10 3,zm 37 38])
   (.ite (.t 37)
    (.seq (.rgd [zf 39 1 2,zl 40 39,iz 41 (.bsl false 1) [.t 40],zg 42 Fn.q110 [.t 41],zf 43 0 2,zl 44 43,zf 45 2 2,zl 46 45,iz 47 (.bsl false 1) [.t 44,.t 46],zg 48 Fn.q110 [.t 47],iz 49 (.bld [.nils,.nils,.nils] [(1,1),(2,1)]) [.t 42,.t 48],zs 3 4 49,kz 5 .mv [.c (.int .i64 0)]])
    .ret)
    .skip))))))))
 (.seq (.reg [iz 50 (.bld [.nils,.nils,.nils] []) [],zs 3 4 50,kz 5 .mv [.c (.int .i64 3)]])
 .ret))))
def Ks.q60:List Nat:=[0,1,2,4,5]
def Rs.q60:List RV:=[.cell 4 3 true,.tmp 5]
def Dl.q60:List (List Nat):=[]
def Mc.q60:MC:=(.seq (.reg [kz 2 .box [.t 0],kz 4 (.alloc [.nils,.nils,.nils]) [],kz 5 .mv [.c (.int .i64 0)]])
 (.seq (.seq (.reg [zL 6 3 2,zg 7 Fn.q72 [.t 6],iz 8 (.un .not) [.t 7]])
 (.ite (.t 8)
  (.seq (.reg [iz 9 (.bld [.nils,.nils,.nils] []) [],zs 3 4 9,kz 5 .mv [.c (.int .i64 1)]])
  .ret)
  .skip))
 (.seq (.seq (.reg [zm 10 1,zc 11 .lss 10 1,zm 12 11,gz 12 false 13 .mv [.t 1],gz 12 false 14 (.bin .gtr) [.t 13,.c (.int .i64 3)],iz 15 .pick [.t 12,.c (.bool true),.t 14]])
 (.ite (.t 15)
  (.seq (.reg [iz 16 (.bld [.nils,.nils,.nils] []) [],zs 3 4 16,kz 5 .mv [.c (.int .i64 3)]])
  .ret)
  .skip))
 (.seq (.reg [zL 17 3 2,zm 18 1,zg 19 Fn.q63 [.t 17,.t 18],zs 3 4 19,kz 5 .mv [.c (.int .i64 0)]])
 .ret))))
def Ks.origin_All:List Nat:=[0,1,2,3]
def Rs.origin_All:List RV:=[.tmp 2,.tmp 3]
def Dl.origin_All:List (List Nat):=[]
def Mc.origin_All:MC:=(.seq (.reg [kz 1 .box [.t 0],kz 2 (.newnil 3) [],kz 3 .mv [.c (.int .i64 0)]])
 (.seq (.seq (.reg [zL 4 3 1,zg 5 Fn.q109 [.t 4],iz 6 (.un .not) [.t 5]])
 (.ite (.t 6)
  (.seq (.reg [kz 2 (.newnil 3) [],kz 3 .mv [.c (.int .i64 1)]])
  .ret)
  .skip))
 (.seq (.reg [zf 7 0 1,zl 8 7,zf 9 1 1,zl 10 9,zf 11 2 1,zl 12 11,iz 13 (.bsl false 1) [.t 8,.t 10,.t 12],zg 14 Fn.q110 [.t 13],zM 2 14,kz 3 .mv [.c (.int .i64 0)]])
 .ret)))
def Ks.q90:List Nat:=[0,1,2,3]
def Rs.q90:List RV:=[.tmp 2,.tmp 3]
def Dl.q90:List (List Nat):=[]
def Mc.q90:MC:=(.seq (.reg [kz 1 .box [.t 0],kz 2 (.newnil 3) [],kz 3 .mv [.c (.int .i64 0)]])
 (.seq (.seq (.reg [zL 4 3 1,zg 5 Fn.q72 [.t 4],iz 6 (.un .not) [.t 5]])
 (.ite (.t 6)
  (.seq (.reg [kz 2 (.newnil 3) [],kz 3 .mv [.c (.int .i64 1)]])
  .ret)
  .skip))
 (.seq (.reg [zL 7 3 1,zg 8 Fn.q73 [.t 7],zM 2 8,kz 3 .mv [.c (.int .i64 0)]])
 .ret)))
def Ks.q109:List Nat:=[0,1,2]
def Rs.q109:List RV:=[.tmp 2]
def Dl.q109:List (List Nat):=[]
def Mc.q109:MC:=(.seq (.reg [kz 1 .box [.t 0],kz 2 .mv [.c (.bool false)]])
 (.seq (.reg [zf 3 0 1,zl 4 3,zg 5 Fn.q100 [.t 4],zm 6 5,gz 6 true 7 (.fadr 1) [.t 1],gz 6 true 8 (.ld 1 false) [.t 7],gz 6 true 9 (.call Fn.q100) [.t 8],iz 10 .pick [.t 6,.t 9,.c (.bool false)],zm 11 10,gz 11 true 12 (.fadr 2) [.t 1],gz 11 true 13 (.ld 1 false) [.t 12],gz 11 true 14 (.call Fn.q100) [.t 13],iz 15 .pick [.t 11,.t 14,.c (.bool false)],zM 2 15])
 .ret))
def Ks.q72:List Nat:=[0,1,2]
def Rs.q72:List RV:=[.tmp 2]
def Dl.q72:List (List Nat):=[]
def Mc.q72:MC:=(.seq (.reg [kz 1 .box [.t 0],kz 2 .mv [.c (.bool false)]])
 (.seq (.reg [zf 3 0 1,zl 4 3,zg 5 Fn.q74 [.t 4],zm 6 5,gz 6 true 7 (.fadr 1) [.t 1],gz 6 true 8 (.ld 1 false) [.t 7],gz 6 true 9 (.call Fn.q74) [.t 8],iz 10 .pick [.t 6,.t 9,.c (.bool false)],zm 11 10,gz 11 true 12 (.fadr 2) [.t 1],gz 11 true 13 (.ld 1 false) [.t 12],gz 11 true 14 (.call Fn.q74) [.t 13],iz 15 .pick [.t 11,.t 14,.c (.bool false)],zM 2 15])
 .ret))
def Ks.q50:List Nat:=[0,1,2,3,4]
def Rs.q50:List RV:=[.tmp 4]
def Dl.q50:List (List Nat):=[]
def Mc.q50:MC:=(.seq (.reg [kz 2 .box [.t 0],kz 3 .box [.t 1],kz 4 .mv [.c (.bool false)]])
 (.seq (.reg [zf 5 0 2,zl 6 5,zf 7 0 3,zl 8 7,zg 9 Fn.q80 [.t 6,.t 8],zm 10 9,gz 10 true 11 (.fadr 1) [.t 2],gz 10 true 12 (.ld 1 false) [.t 11],gz 10 true 13 (.fadr 1) [.t 3],gz 10 true 14 (.ld 1 false) [.t 13],gz 10 true 15 (.call Fn.q80) [.t 12,.t 14],iz 16 .pick [.t 10,.t 15,.c (.bool false)],zm 17 16,gz 17 true 18 (.fadr 2) [.t 2],gz 17 true 19 (.ld 1 false) [.t 18],gz 17 true 20 (.fadr 2) [.t 3],gz 17 true 21 (.ld 1 false) [.t 20],gz 17 true 22 (.call Fn.q80) [.t 19,.t 21],iz 23 .pick [.t 17,.t 22,.c (.bool false)],zM 4 23])
 .ret))
def Ks.q24:List Nat:=[0,1,4,5,12,13]
def Rs.q24:List RV:=[.tmp 4]
def Dl.q24:List (List Nat):=[[5]]
def Mc.q24_L0:MC:=(.seq (.reg [zb 14 .lss 13 12])
 (.seq (.ite (.t 14)
  .skip
  (.exit 0))
 (.seq (.blk 1 (.seq (.reg [zm 15 13,zM 5 15])
 (.seq (.rgd [zm 16 0,zm 17 5,zi 18 3 16 17,zL 19 3 18,zm 20 1,zm 21 5,zi 22 3 20 21,zL 23 3 22,iz 24 (.eqA true [.s,.i,.i]) [.t 19,.t 23]])
 (.ite (.t 24)
  (.seq (.reg [kz 4 .mv [.c (.bool false)]])
  .ret)
  .skip))))
 (.reg [zc 25 .add 13 1,zM 13 25]))))
def Mc.q24:MC:=(.seq (.reg [kz 4 .mv [.c (.bool false)]])
 (.seq (.seq (.reg [zm 6 0,zn 7 1 6,zm 8 1,zn 9 1 8,zb 10 .neq 7 9])
 (.ite (.t 10)
  (.seq (.reg [kz 4 .mv [.c (.bool false)]])
  .ret)
  .skip))
 (.seq (.seq (.reg [zm 11 0,kz 12 (.len 1) [.t 11],kz 13 .mv [.c (.int .i64 0)]])
 (.blk 0 (.loop [5] Mc.q24_L0)))
 (.seq (.reg [kz 4 .mv [.c (.bool true)]])
 .ret))))
def Ks.q38:List Nat:=[0,1,4,5,12,13]
def Rs.q38:List RV:=[.tmp 4]
def Dl.q38:List (List Nat):=[[5]]
def Mc.q38_L0:MC:=(.seq (.reg [zb 14 .lss 13 12])
 (.seq (.ite (.t 14)
  .skip
  (.exit 0))
 (.seq (.blk 1 (.seq (.reg [zm 15 13,zM 5 15])
 (.seq (.rgd [zm 16 0,zm 17 5,zi 18 1 16 17,zl 19 18,zm 20 1,zm 21 5,zi 22 1 20 21,zl 23 22,zb 24 .neq 19 23])
 (.ite (.t 24)
  (.seq (.reg [kz 4 .mv [.c (.bool false)]])
  .ret)
  .skip))))
 (.reg [zc 25 .add 13 1,zM 13 25]))))
def Mc.q38:MC:=(.seq (.reg [kz 4 .mv [.c (.bool false)]])
 (.seq (.seq (.reg [zm 6 0,zn 7 1 6,zm 8 1,zn 9 1 8,zb 10 .neq 7 9])
 (.ite (.t 10)
  (.seq (.reg [kz 4 .mv [.c (.bool false)]])
  .ret)
  .skip))
 (.seq (.seq (.reg [zm 11 0,kz 12 (.len 1) [.t 11],kz 13 .mv [.c (.int .i64 0)]])
 (.blk 0 (.loop [5] Mc.q38_L0)))
 (.seq (.reg [kz 4 .mv [.c (.bool true)]])
 .ret))))
def Ks.q99:List Nat:=[0,1,2,3,4,5,6,7,19]
def Rs.q99:List RV:=[.tmp 4]
def Dl.q99:List (List Nat):=[[6,7]]
def Mc.q99_L0:MC:=(.seq (.rgn (.t 19) (some 20) false [ze 21 0 20])
 (.seq (.ite (.t 21)
  .skip
  (.exit 0))
 (.blk 1 (.seq (.reg [iz 22 .ent [.t 19],ze 23 0 22,ze 24 1 22,zM 6 23,zM 7 24])
 (.seq (.reg [zm 25 7,zL 26 2 3,zg 27 Fn.lineset_Has [.t 25,.t 26]])
 (.ite (.t 27)
  (.reg [zm 28 5,zm 29 6,iz 30 (.bsl false 1) [.t 29],iz 31 (.app false 1 8) [.t 28,.t 30],zM 5 31])
  .skip))))))
def Mc.q99:MC:=(.seq (.reg [kz 2 .box [.t 0],kz 3 .box [.t 1],kz 4 (.newnil 1) []])
 (.seq (.seq (.reg [zL 8 3 2,zg 9 Fn.q109 [.t 8],iz 10 (.un .not) [.t 9]])
 (.ite (.t 10)
  (.seq (.reg [kz 4 (.newnil 1) []])
  .ret)
  .skip))
 (.seq (.reg [kz 5 (.newnil 1) []])
 (.seq (.seq (.reg [iz 11 .mkmap [],zf 12 0 2,zl 13 12,nz (.mapup .i) [.t 11,.c (.int .i64 1),.t 13],zf 14 1 2,zl 15 14,nz (.mapup .i) [.t 11,.c (.int .i64 2),.t 15],zf 16 2 2,zl 17 16,nz (.mapup .i) [.t 11,.c (.int .i64 3),.t 17],zm 18 11,kz 19 .rngm [.t 18]])
 (.blk 0 (.loop [6,7] Mc.q99_L0)))
 (.seq (.reg [zm 32 5,zg 33 Fn.q42 [.t 32]])
 (.seq (.reg [zm 34 5,zM 4 34])
 .ret))))))
def Ks.q62:List Nat:=[0,1,2,3,4,5]
def Rs.q62:List RV:=[.tmp 4]
def Dl.q62:List (List Nat):=[]
def Mc.q62:MC:=(.seq (.reg [kz 2 .box [.t 0],kz 3 .box [.t 1],kz 4 (.newnil 1) []])
 (.seq (.reg [iz 6 (.bsl false 1) [],zM 5 6])
 (.seq (.seq (.reg [zL 7 3 2,zg 8 Fn.q72 [.t 7],iz 9 (.un .not) [.t 8]])
 (.ite (.t 9)
  (.seq (.reg [zm 10 5,zM 4 10])
  .ret)
  .skip))
 (.seq (.seq (.reg [zf 11 0 2,zl 12 11,zL 13 2 3,zg 14 Fn.q92 [.t 12,.t 13]])
 (.ite (.t 14)
  (.reg [zm 15 5,iz 16 (.bsl false 1) [.c (.int .i64 1)],iz 17 (.app false 1 8) [.t 15,.t 16],zM 5 17])
  .skip))
 (.seq (.seq (.reg [zf 18 1 2,zl 19 18,zL 20 2 3,zg 21 Fn.q92 [.t 19,.t 20]])
 (.ite (.t 21)
  (.reg [zm 22 5,iz 23 (.bsl false 1) [.c (.int .i64 2)],iz 24 (.app false 1 8) [.t 22,.t 23],zM 5 24])
  .skip))
 (.seq (.seq (.reg [zf 25 2 2,zl 26 25,zL 27 2 3,zg 28 Fn.q92 [.t 26,.t 27]])
 (.ite (.t 28)
  (.reg [zm 29 5,iz 30 (.bsl false 1) [.c (.int .i64 3)],iz 31 (.app false 1 8) [.t 29,.t 30],zM 5 31])
  .skip))
 (.seq (.reg [zm 32 5,zM 4 32])
 .ret)))))))
def Ks.q31:List Nat:=[0,1,4]
def Rs.q31:List RV:=[.tmp 4]
def Dl.q31:List (List Nat):=[]
def Mc.q31:MC:=(.seq (.reg [kz 4 .mv [.c (.bool false)]])
 (.seq (.reg [zm 5 0,zm 6 1,zg 7 Fn.q39 [.t 5,.t 6],zc 8 .geq 7 0,zM 4 8])
 .ret))
def Ks.lineset_Has:List Nat:=[0,1,3,4,5]
def Rs.lineset_Has:List RV:=[.tmp 4]
def Dl.lineset_Has:List (List Nat):=[]
def Mc.lineset_Has:MC:=(.seq (.reg [kz 3 .box [.t 1],kz 4 .mv [.c (.bool false)]])
 (.seq (.reg [iz 6 (.mkfn Fn.q101) [.t 3],zM 5 6])
 (.seq (.reg [zm 7 0,zm 8 5,zg 9 Fn.q10 [.t 7,.t 8],zm 10 9,gz 10 true 11 .mv [.t 0],gz 10 true 12 (.call Fn.q100) [.t 11],iz 13 .pick [.t 10,.t 12,.c (.bool false)],zM 4 13])
 .ret)))
def Ks.q91:List Nat:=[0,2,3]
def Rs.q91:List RV:=[.tmp 2]
def Dl.q91:List (List Nat):=[[]]
def Mc.q91_L0:MC:=(.seq (.seq (.reg [zm 7 3,zm 8 0,zn 9 1 8,zb 10 .lss 7 9])
 (.ite (.t 10)
  .skip
  (.exit 0)))
 (.seq (.blk 1 (.seq (.reg [zm 13 0,zm 14 3,zi 15 3 13 14,zf 16 0 15,zl 17 16,zn 18 0 17,zc 19 .gtr 18 200])
 (.ite (.t 19)
  (.seq (.reg [kz 2 .mv [.c (.bool false)]])
  .ret)
  .skip)))
 (.reg [zm 11 3,zc 12 .add 11 1,zM 3 12])))
def Mc.q91:MC:=(.seq (.reg [kz 2 .mv [.c (.bool false)]])
 (.seq (.seq (.reg [zm 4 0,zn 5 1 4,zc 6 .gtr 5 12])
 (.ite (.t 6)
  (.seq (.reg [kz 2 .mv [.c (.bool false)]])
  .ret)
  .skip))
 (.seq (.seq (.reg [kz 3 .mv [.c (.int .i64 0)]])
 (.blk 0 (.loop [] Mc.q91_L0)))
 (.seq (.reg [kz 2 .mv [.c (.bool true)]])
 .ret))))
def Ks.q110:List Nat:=[0,2,3,5,6,7,8]
def Rs.q110:List RV:=[.tmp 2]
def Dl.q110:List (List Nat):=[[5]]
def Mc.q110_L0:MC:=(.seq (.reg [zb 9 .lss 8 7])
 (.seq (.ite (.t 9)
  .skip
  (.exit 0))
 (.seq (.blk 1 (.seq (.reg [zi 10 1 6 8,zl 11 10,zM 5 11])
 (.reg [zm 13 3,zm 14 5,zg 15 Fn.q103 [.t 13,.t 14],zm 12 15,ze 16 0 12,ze 17 1 12,zM 3 16])))
 (.reg [zc 18 .add 8 1,zM 8 18]))))
def Mc.q110:MC:=(.seq (.reg [kz 2 (.newnil 3) []])
 (.seq (.reg [kz 3 (.newnil 3) []])
 (.seq (.seq (.reg [zM 6 0,kz 7 (.len 1) [.t 6],kz 8 .mv [.c (.int .i64 0)]])
 (.blk 0 (.loop [5] Mc.q110_L0)))
 (.seq (.reg [zm 19 3,zM 2 19])
 .ret))))
def Ks.q79:List Nat:=[0,1,2,3,4]
def Rs.q79:List RV:=[.cell 4 3 true]
def Dl.q79:List (List Nat):=[]
def Mc.q79:MC:=(.seq (.reg [kz 2 .box [.t 0],kz 3 .box [.t 1],kz 4 (.alloc [.nils,.nils,.nils]) []])
 (.seq (.rgd [zf 5 0 2,zl 6 5,zf 7 0 3,zl 8 7,zg 9 Fn.q81 [.t 6,.t 8],zf 10 1 2,zl 11 10,zf 12 1 3,zl 13 12,zg 14 Fn.q81 [.t 11,.t 13],zf 15 2 2,zl 16 15,zf 17 2 3,zl 18 17,zg 19 Fn.q81 [.t 16,.t 18],iz 20 (.bld [.nils,.nils,.nils] [(0,1),(1,1),(2,1)]) [.t 9,.t 14,.t 19],zs 3 4 20])
 .ret))
def Ks.q63:List Nat:=[0,1,2,4]
def Rs.q63:List RV:=[.cell 4 3 true]
def Dl.q63:List (List Nat):=[]
def Mc.q63:MC:=(.seq (.reg [kz 2 .box [.t 0],kz 4 (.alloc [.nils,.nils,.nils]) []])
 (.seq (.seq (.reg [zm 5 1,zc 6 .eql 5 2])
 (.ite (.t 6)
  (.seq (.reg [zL 7 3 2,zg 8 Fn.q73 [.t 7],iz 9 (.bld [.nils,.nils,.nils] [(1,1)]) [.t 8],zs 3 4 9])
  .ret)
  .skip))
 (.seq (.seq (.reg [zm 10 1,zc 11 .eql 10 3])
 (.ite (.t 11)
  (.seq (.rgd [zf 12 1 2,zl 13 12,zf 14 0 2,zl 15 14,zf 16 2 2,zl 17 16,zg 18 Fn.q81 [.t 15,.t 17],iz 19 (.bld [.nils,.nils,.nils] [(1,1),(2,1)]) [.t 13,.t 18],zs 3 4 19])
  .ret)
  .skip))
 (.seq (.reg [zL 20 3 2,zs 3 4 20])
 .ret))))
def Ks.q73:List Nat:=[0,1,2]
def Rs.q73:List RV:=[.tmp 2]
def Dl.q73:List (List Nat):=[]
def Mc.q73:MC:=(.seq (.reg [kz 1 .box [.t 0],kz 2 (.newnil 3) []])
 (.seq (.rgd [zf 3 0 1,zl 4 3,zf 5 1 1,zl 6 5,zf 7 2 1,zl 8 7,zg 9 Fn.q81 [.t 6,.t 8],zg 10 Fn.q81 [.t 4,.t 9],zM 2 10])
 .ret))
def Ks.q100:List Nat:=[0,2,3,4,5,6,7]
def Rs.q100:List RV:=[.tmp 2]
def Dl.q100:List (List Nat):=[[3,4]]
def Mc.q100_L0:MC:=(.seq (.reg [zb 8 .lss 7 6])
 (.seq (.ite (.t 8)
  .skip
  (.exit 0))
 (.seq (.blk 1 (.seq (.reg [zm 9 7,zi 10 3 5 7,zL 11 3 10,kz 4 (.alloc [.str [],.int .i64 0,.int .i64 0]) [],zM 3 9,zs 3 4 11])
 (.seq (.rgd [zL 12 3 4,zg 13 Fn.q94 [.t 12],iz 14 (.un .not) [.t 13],zm 15 14,gz 15 false 16 .mv [.t 3],gz 15 false 17 (.bin .gtr) [.t 16,.c (.int .i64 0)],gz 15 false 18 .mv [.t 17],gz 18 true 19 .mv [.t 0],gz 18 true 20 .mv [.t 3],gz 18 true 21 (.bin .sub) [.t 20,.c (.int .i64 1)],gz 18 true 22 (.iadr 3) [.t 19,.t 21],gz 18 true 23 (.ld 3 true) [.t 22],gz 18 true 24 (.ld 3 true) [.t 4],gz 18 true 25 (.call Fn.q95) [.t 23,.t 24],gz 18 true 26 (.un .not) [.t 25],gz 15 false 27 .pick [.t 18,.t 26,.c (.bool false)],iz 28 .pick [.t 15,.c (.bool true),.t 27],zm 29 28,gz 29 false 30 (.fadr 0) [.t 4],gz 29 false 31 (.ld 1 false) [.t 30],gz 29 false 32 (.call Fn.tree_Path) [.t 31],gz 29 false 33 (.bin .neq) [.t 32,.c (.int .i64 0)],iz 34 .pick [.t 29,.c (.bool true),.t 33]])
 (.ite (.t 34)
  (.seq (.reg [kz 2 .mv [.c (.bool false)]])
  .ret)
  .skip))))
 (.reg [zc 35 .add 7 1,zM 7 35]))))
def Mc.q100:MC:=(.seq (.reg [kz 2 .mv [.c (.bool false)]])
 (.seq (.seq (.reg [zM 5 0,kz 6 (.len 1) [.t 5],kz 7 .mv [.c (.int .i64 0)]])
 (.blk 0 (.loop [3,4] Mc.q100_L0)))
 (.seq (.reg [kz 2 .mv [.c (.bool true)]])
 .ret)))
def Ks.q74:List Nat:=[0,2,3]
def Rs.q74:List RV:=[.tmp 2]
def Dl.q74:List (List Nat):=[[]]
def Mc.q74_L0:MC:=(.seq (.seq (.reg [zm 4 3,zm 5 0,zn 6 1 5,zb 7 .lss 4 6])
 (.ite (.t 7)
  .skip
  (.exit 0)))
 (.seq (.blk 1 (.seq (.rgd [zm 10 0,zm 11 3,zi 12 3 10 11,zL 13 3 12,zg 14 Fn.q82 [.t 13],iz 15 (.un .not) [.t 14],zm 16 15,gz 16 false 17 .mv [.t 3],gz 16 false 18 (.bin .gtr) [.t 17,.c (.int .i64 0)],gz 16 false 19 .mv [.t 18],gz 19 true 20 .mv [.t 0],gz 19 true 21 .mv [.t 3],gz 19 true 22 (.bin .sub) [.t 21,.c (.int .i64 1)],gz 19 true 23 (.iadr 3) [.t 20,.t 22],gz 19 true 24 (.ld 3 true) [.t 23],gz 19 true 25 .mv [.t 0],gz 19 true 26 .mv [.t 3],gz 19 true 27 (.iadr 3) [.t 25,.t 26],gz 19 true 28 (.ld 3 true) [.t 27],gz 19 true 29 (.call Fn.q64) [.t 24,.t 28],gz 19 true 30 (.un .not) [.t 29],gz 16 false 31 .pick [.t 19,.t 30,.c (.bool false)],iz 32 .pick [.t 16,.c (.bool true),.t 31]])
 (.ite (.t 32)
  (.seq (.reg [kz 2 .mv [.c (.bool false)]])
  .ret)
  .skip)))
 (.reg [zm 8 3,zc 9 .add 8 1,zM 3 9])))
def Mc.q74:MC:=(.seq (.reg [kz 2 .mv [.c (.bool false)]])
 (.seq (.seq (.reg [kz 3 .mv [.c (.int .i64 0)]])
 (.blk 0 (.loop [] Mc.q74_L0)))
 (.seq (.reg [kz 2 .mv [.c (.bool true)]])
 .ret)))
def Ks.q80:List Nat:=[0,1,4,5]
def Rs.q80:List RV:=[.tmp 4]
def Dl.q80:List (List Nat):=[[]]
def Mc.q80_L0:MC:=(.seq (.seq (.reg [zm 11 5,zm 12 0,zn 13 1 12,zb 14 .lss 11 13])
 (.ite (.t 14)
  .skip
  (.exit 0)))
 (.seq (.blk 1 (.seq (.rgd [zm 17 0,zm 18 5,zi 19 3 17 18,zL 20 3 19,zm 21 1,zm 22 5,zi 23 3 21 22,zL 24 3 23,iz 25 (.eqA true [.s,.i,.i]) [.t 20,.t 24]])
 (.ite (.t 25)
  (.seq (.reg [kz 4 .mv [.c (.bool false)]])
  .ret)
  .skip)))
 (.reg [zm 15 5,zc 16 .add 15 1,zM 5 16])))
def Mc.q80:MC:=(.seq (.reg [kz 4 .mv [.c (.bool false)]])
 (.seq (.seq (.reg [zm 6 0,zn 7 1 6,zm 8 1,zn 9 1 8,zb 10 .neq 7 9])
 (.ite (.t 10)
  (.seq (.reg [kz 4 .mv [.c (.bool false)]])
  .ret)
  .skip))
 (.seq (.seq (.reg [kz 5 .mv [.c (.int .i64 0)]])
 (.blk 0 (.loop [] Mc.q80_L0)))
 (.seq (.reg [kz 4 .mv [.c (.bool true)]])
 .ret))))
def Ks.q92:List Nat:=[0,1,3,4,5]
def Rs.q92:List RV:=[.tmp 4]
def Dl.q92:List (List Nat):=[[]]
def Mc.q92_L0:MC:=(.seq (.seq (.reg [zm 9 5,zm 10 0,zn 11 1 10,zb 12 .lss 9 11])
 (.ite (.t 12)
  .skip
  (.exit 0)))
 (.seq (.blk 1 (.seq (.rgd [zm 15 0,zm 16 5,zi 17 3 15 16,zf 18 0 17,zl 19 18,zf 20 0 3,zl 21 20,zb 22 .eql 19 21,zm 23 22,gz 23 true 24 .mv [.t 0],gz 23 true 25 .mv [.t 5],gz 23 true 26 (.iadr 3) [.t 24,.t 25],gz 23 true 27 (.fadr 1) [.t 26],gz 23 true 28 (.ld 1 false) [.t 27],gz 23 true 29 (.fadr 1) [.t 3],gz 23 true 30 (.ld 1 false) [.t 29],gz 23 true 31 (.bin .leq) [.t 28,.t 30],iz 32 .pick [.t 23,.t 31,.c (.bool false)],zm 33 32,gz 33 true 34 (.fadr 1) [.t 3],gz 33 true 35 (.ld 1 false) [.t 34],gz 33 true 36 .mv [.t 0],gz 33 true 37 .mv [.t 5],gz 33 true 38 (.iadr 3) [.t 36,.t 37],gz 33 true 39 (.fadr 2) [.t 38],gz 33 true 40 (.ld 1 false) [.t 39],gz 33 true 41 (.bin .lss) [.t 35,.t 40],iz 42 .pick [.t 33,.t 41,.c (.bool false)]])
 (.ite (.t 42)
  (.seq (.reg [kz 4 .mv [.c (.bool true)]])
  .ret)
  .skip)))
 (.reg [zm 13 5,zc 14 .add 13 1,zM 5 14])))
def Mc.q92:MC:=(.seq (.reg [kz 3 .box [.t 1],kz 4 .mv [.c (.bool false)]])
 (.seq (.seq (.reg [zm 6 0,zg 7 Fn.q74 [.t 6],iz 8 (.un .not) [.t 7]])
 (.ite (.t 8)
  (.seq (.reg [kz 4 .mv [.c (.bool false)]])
  .ret)
  .skip))
 (.seq (.seq (.reg [kz 5 .mv [.c (.int .i64 0)]])
 (.blk 0 (.loop [] Mc.q92_L0)))
 (.seq (.reg [kz 4 .mv [.c (.bool false)]])
 .ret))))
def Ks.q101:List Nat:=[0,1,2,3]
def Rs.q101:List RV:=[.tmp 3]
def Dl.q101:List (List Nat):=[]
def Mc.q101:MC:=(.seq (.reg [kz 2 .box [.t 0],kz 3 .mv [.c (.bool false)]])
 (.seq (.reg [zf 4 0 2,zl 5 4,zf 6 0 1,zl 7 6,zb 8 .eql 5 7,zm 9 8,gz 9 true 10 (.fadr 1) [.t 2],gz 9 true 11 (.ld 1 false) [.t 10],gz 9 true 12 (.fadr 1) [.t 1],gz 9 true 13 (.ld 1 false) [.t 12],gz 9 true 14 (.bin .leq) [.t 11,.t 13],iz 15 .pick [.t 9,.t 14,.c (.bool false)],zm 16 15,gz 16 true 17 (.fadr 1) [.t 1],gz 16 true 18 (.ld 1 false) [.t 17],gz 16 true 19 (.fadr 2) [.t 2],gz 16 true 20 (.ld 1 false) [.t 19],gz 16 true 21 (.bin .lss) [.t 18,.t 20],iz 22 .pick [.t 16,.t 21,.c (.bool false)],zM 3 22])
 .ret))
def Ks.q10:List Nat:=[0,1,4]
def Rs.q10:List RV:=[.tmp 4]
def Dl.q10:List (List Nat):=[]
def Mc.q10:MC:=(.seq (.reg [kz 4 .mv [.c (.bool false)]])
 (.seq (.reg [zm 5 0,zm 6 1,zg 7 Fn.q15 [.t 5,.t 6],zc 8 .geq 7 0,zM 4 8])
 .ret))
def Ks.q103:List Nat:=[0,1,4,5]
def Rs.q103:List RV:=[.tmp 4,.tmp 5]
def Dl.q103:List (List Nat):=[]
def Mc.q103:MC:=(.seq (.reg [kz 4 (.newnil 3) [],kz 5 .mv [.c (.int .i64 0)]])
 (.seq (.seq (.reg [zm 6 0,zg 7 Fn.q100 [.t 6],iz 8 (.un .not) [.t 7],zm 9 8,gz 9 false 10 .mv [.t 1],gz 9 false 11 (.call Fn.q100) [.t 10],gz 9 false 12 (.un .not) [.t 11],iz 13 .pick [.t 9,.c (.bool true),.t 12]])
 (.ite (.t 13)
  (.seq (.reg [kz 4 (.newnil 3) [],kz 5 .mv [.c (.int .i64 1)]])
  .ret)
  .skip))
 (.seq (.reg [zm 14 0,zm 15 1,iz 16 (.bsl false 1) [.t 14,.t 15],zg 17 Fn.q21 [.t 16],zg 18 Fn.q105 [.t 17],zM 4 18,kz 5 .mv [.c (.int .i64 0)]])
 .ret)))
def Ks.q81:List Nat:=[0,1,4]
def Rs.q81:List RV:=[.tmp 4]
def Dl.q81:List (List Nat):=[]
def Mc.q81:MC:=(.seq (.reg [kz 4 (.newnil 3) []])
 (.seq (.reg [zm 5 0,zg 6 Fn.q85 [.t 5],zm 7 1,zg 8 Fn.q85 [.t 7],zg 9 Fn.q76 [.t 6,.t 8],zg 10 Fn.q84 [.t 9],zM 4 10])
 .ret))
def Ks.q94:List Nat:=[0,1,2]
def Rs.q94:List RV:=[.tmp 2]
def Dl.q94:List (List Nat):=[]
def Mc.q94:MC:=(.seq (.reg [kz 1 .box [.t 0],kz 2 .mv [.c (.bool false)]])
 (.seq (.reg [zf 3 1 1,zl 4 3,iz 5 (.bin .leq) [.c (.int .i64 0),.t 4],zm 6 5,gz 6 true 7 (.fadr 1) [.t 1],gz 6 true 8 (.ld 1 false) [.t 7],gz 6 true 9 (.fadr 2) [.t 1],gz 6 true 10 (.ld 1 false) [.t 9],gz 6 true 11 (.bin .lss) [.t 8,.t 10],iz 12 .pick [.t 6,.t 11,.c (.bool false)],zm 13 12,gz 13 true 14 (.fadr 2) [.t 1],gz 13 true 15 (.ld 1 false) [.t 14],gz 13 true 16 (.bin .leq) [.t 15,.c (.int .i64 1024)],iz 17 .pick [.t 13,.t 16,.c (.bool false)],zM 2 17])
 .ret))
def Ks.q95:List Nat:=[0,1,2,3,4]
def Rs.q95:List RV:=[.tmp 4]
def Dl.q95:List (List Nat):=[]
def Mc.q95:MC:=(.seq (.reg [kz 2 .box [.t 0],kz 3 .box [.t 1],kz 4 .mv [.c (.bool false)]])
 (.seq (.reg [zf 5 0 2,zl 6 5,zf 7 0 3,zl 8 7,zb 9 .lss 6 8,zm 10 9,gz 10 false 11 (.fadr 0) [.t 2],gz 10 false 12 (.ld 1 false) [.t 11],gz 10 false 13 (.fadr 0) [.t 3],gz 10 false 14 (.ld 1 false) [.t 13],gz 10 false 15 (.bin .eql) [.t 12,.t 14],gz 10 false 16 .mv [.t 15],gz 16 true 17 (.fadr 2) [.t 2],gz 16 true 18 (.ld 1 false) [.t 17],gz 16 true 19 (.fadr 1) [.t 3],gz 16 true 20 (.ld 1 false) [.t 19],gz 16 true 21 (.bin .lss) [.t 18,.t 20],gz 10 false 22 .pick [.t 16,.t 21,.c (.bool false)],iz 23 .pick [.t 10,.c (.bool true),.t 22],zM 4 23])
 .ret))
def Ks.q82:List Nat:=[0,1,2]
def Rs.q82:List RV:=[.tmp 2]
def Dl.q82:List (List Nat):=[]
def Mc.q82:MC:=(.seq (.reg [kz 1 .box [.t 0],kz 2 .mv [.c (.bool false)]])
 (.seq (.reg [zf 3 0 1,zl 4 3,zg 5 Fn.q86 [.t 4],zm 6 5,gz 6 true 7 (.fadr 1) [.t 1],gz 6 true 8 (.ld 1 false) [.t 7],gz 6 true 9 (.bin .geq) [.t 8,.c (.int .i64 0)],iz 10 .pick [.t 6,.t 9,.c (.bool false)],zm 11 10,gz 11 true 12 (.fadr 1) [.t 1],gz 11 true 13 (.ld 1 false) [.t 12],gz 11 true 14 (.fadr 2) [.t 1],gz 11 true 15 (.ld 1 false) [.t 14],gz 11 true 16 (.bin .lss) [.t 13,.t 15],iz 17 .pick [.t 11,.t 16,.c (.bool false)],zm 18 17,gz 18 true 19 (.fadr 2) [.t 1],gz 18 true 20 (.ld 1 false) [.t 19],gz 18 true 21 (.bin .leq) [.t 20,.c (.int .i64 1024)],iz 22 .pick [.t 18,.t 21,.c (.bool false)],zM 2 22])
 .ret))
def Ks.q64:List Nat:=[0,1,2,3,4]
def Rs.q64:List RV:=[.tmp 4]
def Dl.q64:List (List Nat):=[]
def Mc.q64:MC:=(.seq (.reg [kz 2 .box [.t 0],kz 3 .box [.t 1],kz 4 .mv [.c (.bool false)]])
 (.seq (.reg [zf 5 0 2,zl 6 5,zf 7 0 3,zl 8 7,zb 9 .lss 6 8,zm 10 9,gz 10 false 11 (.fadr 0) [.t 2],gz 10 false 12 (.ld 1 false) [.t 11],gz 10 false 13 (.fadr 0) [.t 3],gz 10 false 14 (.ld 1 false) [.t 13],gz 10 false 15 (.bin .eql) [.t 12,.t 14],gz 10 false 16 .mv [.t 15],gz 16 true 17 (.fadr 2) [.t 2],gz 16 true 18 (.ld 1 false) [.t 17],gz 16 true 19 (.fadr 1) [.t 3],gz 16 true 20 (.ld 1 false) [.t 19],gz 16 true 21 (.bin .lss) [.t 18,.t 20],gz 10 false 22 .pick [.t 16,.t 21,.c (.bool false)],iz 23 .pick [.t 10,.c (.bool true),.t 22],zM 4 23])
 .ret))
def Ks.q105:List Nat:=[0,2,3,5,6,9,10,11]
def Rs.q105:List RV:=[.tmp 2]
def Dl.q105:List (List Nat):=[[5,6]]
def Mc.q105_L0:MC:=(.seq (.reg [zb 12 .lss 11 10])
 (.seq (.ite (.t 12)
  .skip
  (.exit 0))
 (.seq (.blk 1 (.seq (.reg [zi 13 3 9 11,zL 14 3 13,kz 5 (.alloc [.str [],.int .i64 0,.int .i64 0]) [],zs 3 5 14])
 (.seq (.reg [zm 15 3,zn 16 1 15,zc 17 .sub 16 1,zM 6 17])
 (.seq (.rgd [zm 18 6,zc 19 .geq 18 0,zm 20 19,gz 20 true 21 .mv [.t 3],gz 20 true 22 .mv [.t 6],gz 20 true 23 (.iadr 3) [.t 21,.t 22],gz 20 true 24 (.ld 3 true) [.t 23],gz 20 true 25 (.ld 3 true) [.t 5],gz 20 true 26 (.call Fn.q95) [.t 24,.t 25],gz 20 true 27 (.un .not) [.t 26],iz 28 .pick [.t 20,.t 27,.c (.bool false)]])
 (.ite (.t 28)
  (.rgd [zm 29 3,zm 30 6,zm 31 3,zm 32 6,zi 33 3 31 32,zf 34 2 33,zl 35 34,zf 36 2 5,zl 37 36,iz 38 .max [.t 35,.t 37],zi 39 3 29 30,zf 40 2 39,zs 1 40 38])
  (.reg [zm 41 3,zL 42 3 5,iz 43 (.bsl false 3) [.t 42],iz 44 (.app false 3 32) [.t 41,.t 43],zM 3 44]))))))
 (.reg [zc 45 .add 11 1,zM 11 45]))))
def Mc.q105:MC:=(.seq (.reg [kz 2 (.newnil 3) []])
 (.seq (.reg [zm 7 0,zg 8 Fn.q18 [.t 7,.c (.fn Fn.q87 [])]])
 (.seq (.reg [kz 3 (.newnil 3) []])
 (.seq (.seq (.reg [zM 9 0,kz 10 (.len 1) [.t 9],kz 11 .mv [.c (.int .i64 0)]])
 (.blk 0 (.loop [5,6] Mc.q105_L0)))
 (.seq (.reg [zm 46 3,zM 2 46])
 .ret)))))
def Ks.q84:List Nat:=[0,2,3,4,5]
def Rs.q84:List RV:=[.tmp 2]
def Dl.q84:List (List Nat):=[[5]]
def Mc.q84_L0:MC:=(.seq (.seq (.reg [zm 7 4,zm 8 0,zn 9 1 8,zb 10 .lss 7 9])
 (.ite (.t 10)
  .skip
  (.exit 0)))
 (.seq (.blk 1 (.seq (.reg [zm 13 3,zn 14 1 13,zc 15 .sub 14 1,zM 5 15])
 (.seq (.seq (.rgd [zm 16 5,zc 17 .geq 16 0,zm 18 17,gz 18 true 19 .mv [.t 3],gz 18 true 20 .mv [.t 5],gz 18 true 21 (.iadr 3) [.t 19,.t 20],gz 18 true 22 (.fadr 0) [.t 21],gz 18 true 23 (.ld 1 false) [.t 22],gz 18 true 24 .mv [.t 0],gz 18 true 25 .mv [.t 4],gz 18 true 26 (.iadr 2) [.t 24,.t 25],gz 18 true 27 (.fadr 0) [.t 26],gz 18 true 28 (.ld 1 false) [.t 27],gz 18 true 29 (.bin .eql) [.t 23,.t 28],iz 30 .pick [.t 18,.t 29,.c (.bool false)],zm 31 30,gz 31 true 32 .mv [.t 0],gz 31 true 33 .mv [.t 4],gz 31 true 34 (.iadr 2) [.t 32,.t 33],gz 31 true 35 (.fadr 1) [.t 34],gz 31 true 36 (.ld 1 false) [.t 35],gz 31 true 37 .mv [.t 3],gz 31 true 38 .mv [.t 5],gz 31 true 39 (.iadr 3) [.t 37,.t 38],gz 31 true 40 (.fadr 2) [.t 39],gz 31 true 41 (.ld 1 false) [.t 40],gz 31 true 42 (.bin .lss) [.t 36,.t 41],iz 43 .pick [.t 31,.t 42,.c (.bool false)]])
 (.ite (.t 43)
  (.exit 1)
  .skip))
 (.seq (.seq (.rgd [zm 44 5,zc 45 .geq 44 0,zm 46 45,gz 46 true 47 .mv [.t 3],gz 46 true 48 .mv [.t 5],gz 46 true 49 (.iadr 3) [.t 47,.t 48],gz 46 true 50 (.fadr 0) [.t 49],gz 46 true 51 (.ld 1 false) [.t 50],gz 46 true 52 .mv [.t 0],gz 46 true 53 .mv [.t 4],gz 46 true 54 (.iadr 2) [.t 52,.t 53],gz 46 true 55 (.fadr 0) [.t 54],gz 46 true 56 (.ld 1 false) [.t 55],gz 46 true 57 (.bin .eql) [.t 51,.t 56],iz 58 .pick [.t 46,.t 57,.c (.bool false)],zm 59 58,gz 59 true 60 .mv [.t 0],gz 59 true 61 .mv [.t 4],gz 59 true 62 (.iadr 2) [.t 60,.t 61],gz 59 true 63 (.fadr 1) [.t 62],gz 59 true 64 (.ld 1 false) [.t 63],gz 59 true 65 .mv [.t 3],gz 59 true 66 .mv [.t 5],gz 59 true 67 (.iadr 3) [.t 65,.t 66],gz 59 true 68 (.fadr 2) [.t 67],gz 59 true 69 (.ld 1 false) [.t 68],gz 59 true 70 (.bin .eql) [.t 64,.t 69],iz 71 .pick [.t 59,.t 70,.c (.bool false)]])
 (.ite (.t 71)
  (.seq (.reg [zm 72 3,zm 73 5,zm 74 3,zm 75 5,zi 76 3 74 75,zf 77 2 76,zl 78 77,zc 79 .add 78 1,zi 80 3 72 73,zf 81 2 80,zs 1 81 79])
  (.exit 1))
  .skip))
 (.rgd [zm 82 3,zm 83 0,zm 84 4,zi 85 2 83 84,zf 86 0 85,zl 87 86,zm 88 0,zm 89 4,zi 90 2 88 89,zf 91 1 90,zl 92 91,zm 93 0,zm 94 4,zi 95 2 93 94,zf 96 1 95,zl 97 96,zc 98 .add 97 1,iz 99 (.bld [.str [],.int .i64 0,.int .i64 0] [(0,1),(1,1),(2,1)]) [.t 87,.t 92,.t 98],iz 100 (.bsl false 3) [.t 99],iz 101 (.app false 3 32) [.t 82,.t 100],zM 3 101])))))
 (.reg [zm 11 4,zc 12 .add 11 1,zM 4 12])))
def Mc.q84:MC:=(.seq (.reg [kz 2 (.newnil 3) []])
 (.seq (.reg [iz 6 (.bsl false 3) [],zM 3 6])
 (.seq (.seq (.reg [kz 4 .mv [.c (.int .i64 0)]])
 (.blk 0 (.loop [5] Mc.q84_L0)))
 (.seq (.reg [zm 102 3,zM 2 102])
 .ret))))
def Ks.q76:List Nat:=[0,1,4,5,6,7]
def Rs.q76:List RV:=[.tmp 4]
def Dl.q76:List (List Nat):=[[]]
def Mc.q76_L0:MC:=(.seq (.seq (.reg [zm 9 6,zm 10 0,zn 11 1 10,zb 12 .lss 9 11,zm 13 12,gz 13 false 14 .mv [.t 7],gz 13 false 15 .mv [.t 1],gz 13 false 16 (.len 1) [.t 15],gz 13 false 17 (.bin .lss) [.t 14,.t 16],iz 18 .pick [.t 13,.c (.bool true),.t 17]])
 (.ite (.t 18)
  .skip
  (.exit 0)))
 (.blk 1 (.seq (.rgd [zm 19 7,zm 20 1,zn 21 1 20,zb 22 .eql 19 21,zm 23 22,gz 23 false 24 .mv [.t 6],gz 23 false 25 .mv [.t 0],gz 23 false 26 (.len 1) [.t 25],gz 23 false 27 (.bin .lss) [.t 24,.t 26],gz 23 false 28 .mv [.t 27],gz 28 true 29 .mv [.t 0],gz 28 true 30 .mv [.t 6],gz 28 true 31 (.iadr 2) [.t 29,.t 30],gz 28 true 32 (.ld 2 true) [.t 31],gz 28 true 33 .mv [.t 1],gz 28 true 34 .mv [.t 7],gz 28 true 35 (.iadr 2) [.t 33,.t 34],gz 28 true 36 (.ld 2 true) [.t 35],gz 28 true 37 (.call Fn.q65) [.t 32,.t 36],gz 23 false 38 .pick [.t 28,.t 37,.c (.bool false)],iz 39 .pick [.t 23,.c (.bool true),.t 38]])
 (.ite (.t 39)
  (.seq (.reg [zm 40 5,zm 41 0,zm 42 6,zi 43 2 41 42,zL 44 2 43,iz 45 (.bsl false 2) [.t 44],iz 46 (.app false 2 24) [.t 40,.t 45],zM 5 46])
  (.reg [zm 47 6,zc 48 .add 47 1,zM 6 48]))
  (.seq (.reg [zm 49 5,zm 50 1,zm 51 7,zi 52 2 50 51,zL 53 2 52,iz 54 (.bsl false 2) [.t 53],iz 55 (.app false 2 24) [.t 49,.t 54],zM 5 55])
  (.reg [zm 56 7,zc 57 .add 56 1,zM 7 57]))))))
def Mc.q76:MC:=(.seq (.reg [kz 4 (.newnil 2) []])
 (.seq (.reg [iz 8 (.bsl false 2) [],zM 5 8])
 (.seq (.reg [kz 6 .mv [.c (.int .i64 0)],kz 7 .mv [.c (.int .i64 0)]])
 (.seq (.blk 0 (.loop [] Mc.q76_L0))
 (.seq (.reg [zm 58 5,zM 4 58])
 .ret)))))
def Ks.q85:List Nat:=[0,2,3,4,5]
def Rs.q85:List RV:=[.tmp 2]
def Dl.q85:List (List Nat):=[[5],[]]
def Mc.q85_L1:MC:=(.seq (.seq (.reg [zm 22 5,zm 23 0,zm 24 4,zi 25 3 23 24,zf 26 2 25,zl 27 26,zb 28 .lss 22 27])
 (.ite (.t 28)
  .skip
  (.exit 2)))
 (.seq (.blk 3 (.reg [zm 31 3,zm 32 0,zm 33 4,zi 34 3 32 33,zf 35 0 34,zl 36 35,zm 37 5,iz 38 (.bld [.str [],.int .i64 0] [(0,1),(1,1)]) [.t 36,.t 37],iz 39 (.bsl false 2) [.t 38],iz 40 (.app false 2 24) [.t 31,.t 39],zM 3 40]))
 (.reg [zm 29 5,zc 30 .add 29 1,zM 5 30])))
def Mc.q85_L0:MC:=(.seq (.seq (.reg [zm 11 4,zm 12 0,zn 13 1 12,zb 14 .lss 11 13])
 (.ite (.t 14)
  .skip
  (.exit 0)))
 (.seq (.blk 1 (.seq (.reg [zm 17 0,zm 18 4,zi 19 3 17 18,zf 20 1 19,zl 21 20,zM 5 21])
 (.blk 2 (.loop [] Mc.q85_L1))))
 (.reg [zm 15 4,zc 16 .add 15 1,zM 4 16])))
def Mc.q85:MC:=(.seq (.reg [kz 2 (.newnil 2) []])
 (.seq (.reg [iz 6 (.bsl false 2) [],zM 3 6])
 (.seq (.seq (.reg [zm 7 0,zg 8 Fn.q74 [.t 7],iz 9 (.un .not) [.t 8]])
 (.ite (.t 9)
  (.seq (.reg [zm 10 3,zM 2 10])
  .ret)
  .skip))
 (.seq (.seq (.reg [kz 4 .mv [.c (.int .i64 0)]])
 (.blk 0 (.loop [5] Mc.q85_L0)))
 (.seq (.reg [zm 41 3,zM 2 41])
 .ret)))))
def Ks.q21:List Nat:=[0,2,3,5,6,8,9,10,11,25,26,27]
def Rs.q21:List RV:=[.tmp 2]
def Dl.q21:List (List Nat):=[[5],[8]]
def Mc.q21_L0:MC:=(.seq (.reg [zb 12 .lss 11 10])
 (.seq (.ite (.t 12)
  .skip
  (.exit 0))
 (.seq (.blk 1 (.seq (.reg [zi 13 1 9 11,zl 14 13,zM 5 14])
 (.seq (.reg [zm 15 3,zm 16 5,zn 17 1 16,zb 18 .add 15 17,zM 3 18])
 (.seq (.reg [zm 19 3,zc 20 .lss 19 0])
 (.ite (.t 20)
  (.reg [iz 21 (.mkif 9) [.c (.str [108,101,110,32,111,117,116,32,111,102,32,114,97,110,103,101])],nz .bot []])
  .skip)))))
 (.reg [zc 22 .add 11 1,zM 11 22]))))
def Mc.q21_L1:MC:=(.seq (.reg [zb 28 .lss 27 26])
 (.seq (.ite (.t 28)
  .skip
  (.exit 2))
 (.seq (.blk 3 (.seq (.reg [zi 29 1 25 27,zl 30 29,zM 8 30])
 (.reg [zm 31 6,zm 32 8,iz 33 (.app false 3 32) [.t 31,.t 32],zM 6 33])))
 (.reg [zc 34 .add 27 1,zM 27 34]))))
def Mc.q21:MC:=(.seq (.reg [kz 2 (.newnil 3) []])
 (.seq (.reg [kz 3 .mv [.c (.int .i64 0)]])
 (.seq (.seq (.reg [zM 9 0,kz 10 (.len 1) [.t 9],kz 11 .mv [.c (.int .i64 0)]])
 (.blk 0 (.loop [5] Mc.q21_L0)))
 (.seq (.reg [zm 23 3,zg 24 Fn.q28 [.c (.nils),.t 23],zM 6 24])
 (.seq (.seq (.reg [zM 25 0,kz 26 (.len 1) [.t 25],kz 27 .mv [.c (.int .i64 0)]])
 (.blk 2 (.loop [8] Mc.q21_L1)))
 (.seq (.reg [zm 35 6,zM 2 35])
 .ret))))))
def Ks.q86:List Nat:=[0,2,3,4,5]
def Rs.q86:List RV:=[.tmp 2]
def Dl.q86:List (List Nat):=[[]]
def Mc.q86_L0:MC:=(.seq (.seq (.reg [zm 9 5,zm 10 0,zn 11 0 10,zb 12 .leq 9 11])
 (.ite (.t 12)
  .skip
  (.exit 0)))
 (.seq (.blk 1 (.seq (.seq (.reg [zm 15 5,zm 16 0,zn 17 0 16,zb 18 .lss 15 17,zm 19 18,gz 19 true 20 .mv [.t 0],gz 19 true 21 .mv [.t 5],gz 19 true 22 .istr [.t 20,.t 21],gz 19 true 23 (.bin .neq) [.t 22,.c (.int .u8 47)],iz 24 .pick [.t 19,.t 23,.c (.bool false)]])
 (.ite (.t 24)
  (.exit 1)
  .skip))
 (.seq (.seq (.reg [zm 25 0,zm 26 4,zm 27 5,iz 28 (.slc none true true false) [.t 25,.t 26,.t 27],zg 29 Fn.q88 [.t 28],iz 30 (.un .not) [.t 29]])
 (.ite (.t 30)
  (.seq (.reg [kz 2 .mv [.c (.bool false)]])
  .ret)
  .skip))
 (.reg [zm 31 3,zc 32 .add 31 1,zm 33 5,zc 34 .add 33 1,zM 3 32,zM 4 34]))))
 (.reg [zm 13 5,zc 14 .add 13 1,zM 5 14])))
def Mc.q86:MC:=(.seq (.reg [kz 2 .mv [.c (.bool false)]])
 (.seq (.seq (.reg [zm 6 0,zn 7 0 6,zc 8 .gtr 7 128])
 (.ite (.t 8)
  (.seq (.reg [kz 2 .mv [.c (.bool false)]])
  .ret)
  .skip))
 (.seq (.reg [kz 3 .mv [.c (.int .i64 0)],kz 4 .mv [.c (.int .i64 0)]])
 (.seq (.seq (.reg [kz 5 .mv [.c (.int .i64 0)]])
 (.blk 0 (.loop [] Mc.q86_L0)))
 (.seq (.reg [zm 35 3,zc 36 .leq 35 8,zM 2 36])
 .ret)))))
def Ks.q65:List Nat:=[0,1,2,3,4]
def Rs.q65:List RV:=[.tmp 4]
def Dl.q65:List (List Nat):=[]
def Mc.q65:MC:=(.seq (.reg [kz 2 .box [.t 0],kz 3 .box [.t 1],kz 4 .mv [.c (.bool false)]])
 (.seq (.reg [zf 5 0 2,zl 6 5,zf 7 0 3,zl 8 7,zb 9 .lss 6 8,zm 10 9,gz 10 false 11 (.fadr 0) [.t 2],gz 10 false 12 (.ld 1 false) [.t 11],gz 10 false 13 (.fadr 0) [.t 3],gz 10 false 14 (.ld 1 false) [.t 13],gz 10 false 15 (.bin .eql) [.t 12,.t 14],gz 10 false 16 .mv [.t 15],gz 16 true 17 (.fadr 1) [.t 2],gz 16 true 18 (.ld 1 false) [.t 17],gz 16 true 19 (.fadr 1) [.t 3],gz 16 true 20 (.ld 1 false) [.t 19],gz 16 true 21 (.bin .lss) [.t 18,.t 20],gz 10 false 22 .pick [.t 16,.t 21,.c (.bool false)],iz 23 .pick [.t 10,.c (.bool true),.t 22],zM 4 23])
 .ret))
def Ks.q88:List Nat:=[0,2,3,4]
def Rs.q88:List RV:=[.tmp 2]
def Dl.q88:List (List Nat):=[[4]]
def Mc.q88_L0:MC:=(.seq (.seq (.reg [zm 23 3,zm 24 0,zn 25 0 24,zb 26 .lss 23 25])
 (.ite (.t 26)
  .skip
  (.exit 0)))
 (.seq (.blk 1 (.seq (.reg [zm 29 0,zm 30 3,iz 31 .istr [.t 29,.t 30],zM 4 31])
 (.seq (.reg [zm 32 4,iz 33 (.bin .lss) [.t 32,.c (.int .u8 97)],zm 34 33,gz 34 false 35 .mv [.t 4],gz 34 false 36 (.bin .gtr) [.t 35,.c (.int .u8 122)],iz 37 .pick [.t 34,.c (.bool true),.t 36],zm 38 37,gz 38 true 39 .mv [.t 4],gz 38 true 40 (.bin .lss) [.t 39,.c (.int .u8 48)],gz 38 true 41 .mv [.t 40],gz 41 false 42 .mv [.t 4],gz 41 false 43 (.bin .gtr) [.t 42,.c (.int .u8 57)],gz 38 true 44 .pick [.t 41,.c (.bool true),.t 43],iz 45 .pick [.t 38,.t 44,.c (.bool false)],zm 46 45,gz 46 true 47 .mv [.t 4],gz 46 true 48 (.bin .neq) [.t 47,.c (.int .u8 46)],iz 49 .pick [.t 46,.t 48,.c (.bool false)],zm 50 49,gz 50 true 51 .mv [.t 4],gz 50 true 52 (.bin .neq) [.t 51,.c (.int .u8 95)],iz 53 .pick [.t 50,.t 52,.c (.bool false)],zm 54 53,gz 54 true 55 .mv [.t 4],gz 54 true 56 (.bin .neq) [.t 55,.c (.int .u8 45)],iz 57 .pick [.t 54,.t 56,.c (.bool false)]])
 (.ite (.t 57)
  (.seq (.reg [kz 2 .mv [.c (.bool false)]])
  .ret)
  .skip))))
 (.reg [zm 27 3,zc 28 .add 27 1,zM 3 28])))
def Mc.q88:MC:=(.seq (.reg [kz 2 .mv [.c (.bool false)]])
 (.seq (.seq (.reg [zm 5 0,zn 6 0 5,zc 7 .lss 6 1,zm 8 7,gz 8 false 9 .mv [.t 0],gz 8 false 10 (.len 0) [.t 9],gz 8 false 11 (.bin .gtr) [.t 10,.c (.int .i64 32)],iz 12 .pick [.t 8,.c (.bool true),.t 11],zm 13 12,gz 13 false 14 .mv [.t 0],gz 13 false 15 .istr [.t 14,.c (.int .i64 0)],gz 13 false 16 (.bin .eql) [.t 15,.c (.int .u8 46)],iz 17 .pick [.t 13,.c (.bool true),.t 16],zm 18 17,gz 18 false 19 .mv [.t 0],gz 18 false 20 .istr [.t 19,.c (.int .i64 0)],gz 18 false 21 (.bin .eql) [.t 20,.c (.int .u8 45)],iz 22 .pick [.t 18,.c (.bool true),.t 21]])
 (.ite (.t 22)
  (.seq (.reg [kz 2 .mv [.c (.bool false)]])
  .ret)
  .skip))
 (.seq (.seq (.reg [kz 3 .mv [.c (.int .i64 0)]])
 (.blk 0 (.loop [4] Mc.q88_L0)))
 (.seq (.reg [kz 2 .mv [.c (.bool true)]])
 .ret))))
def Ks.q15:List Nat:=[0,1,4,5,7,8]
def Rs.q15:List RV:=[.tmp 4]
def Dl.q15:List (List Nat):=[[5]]
def Mc.q15_L0:MC:=(.seq (.reg [zb 9 .lss 8 7])
 (.seq (.ite (.t 9)
  .skip
  (.exit 0))
 (.seq (.blk 1 (.seq (.reg [zm 10 8,zM 5 10])
 (.seq (.reg [zm 11 1,zm 12 0,zm 13 5,zi 14 3 12 13,zL 15 3 14,iz 16 .callv [.t 11,.t 15]])
 (.ite (.t 16)
  (.seq (.reg [zm 17 5,zM 4 17])
  .ret)
  .skip))))
 (.reg [zc 18 .add 8 1,zM 8 18]))))
def Mc.q15:MC:=(.seq (.reg [kz 4 .mv [.c (.int .i64 0)]])
 (.seq (.seq (.reg [zm 6 0,kz 7 (.len 1) [.t 6],kz 8 .mv [.c (.int .i64 0)]])
 (.blk 0 (.loop [5] Mc.q15_L0)))
 (.seq (.reg [kz 4 .mv [.c (.int .i64 (-1))]])
 .ret)))
def Ks.q39:List Nat:=[0,1,4,5,7,8]
def Rs.q39:List RV:=[.tmp 4]
def Dl.q39:List (List Nat):=[[5]]
def Mc.q39_L0:MC:=(.seq (.reg [zb 9 .lss 8 7])
 (.seq (.ite (.t 9)
  .skip
  (.exit 0))
 (.seq (.blk 1 (.seq (.reg [zm 10 8,zM 5 10])
 (.seq (.reg [zm 11 1,zm 12 0,zm 13 5,zi 14 1 12 13,zl 15 14,zb 16 .eql 11 15])
 (.ite (.t 16)
  (.seq (.reg [zm 17 5,zM 4 17])
  .ret)
  .skip))))
 (.reg [zc 18 .add 8 1,zM 8 18]))))
def Mc.q39:MC:=(.seq (.reg [kz 4 .mv [.c (.int .i64 0)]])
 (.seq (.seq (.reg [zm 6 0,kz 7 (.len 1) [.t 6],kz 8 .mv [.c (.int .i64 0)]])
 (.blk 0 (.loop [5] Mc.q39_L0)))
 (.seq (.reg [kz 4 .mv [.c (.int .i64 (-1))]])
 .ret)))
def Ks.cmp_Or_int_:List Nat:=[0,2,3,5,6,7,8]
def Rs.cmp_Or_int_:List RV:=[.tmp 2]
def Dl.cmp_Or_int_:List (List Nat):=[[5]]
def Mc.cmp_Or_int__L0:MC:=(.seq (.reg [zb 9 .lss 8 7])
 (.seq (.ite (.t 9)
  .skip
  (.exit 0))
 (.seq (.blk 1 (.seq (.reg [zi 10 1 6 8,zl 11 10,zM 5 11])
 (.seq (.reg [zm 12 5,zm 13 3,zb 14 .neq 12 13])
 (.ite (.t 14)
  (.seq (.reg [zm 15 5,zM 2 15])
  .ret)
  .skip))))
 (.reg [zc 16 .add 8 1,zM 8 16]))))
def Mc.cmp_Or_int_:MC:=(.seq (.reg [kz 2 .mv [.c (.int .i64 0)]])
 (.seq (.reg [kz 3 .mv [.c (.int .i64 0)]])
 (.seq (.seq (.reg [zM 6 0,kz 7 (.len 1) [.t 6],kz 8 .mv [.c (.int .i64 0)]])
 (.blk 0 (.loop [5] Mc.cmp_Or_int__L0)))
 (.seq (.reg [zm 17 3,zM 2 17])
 .ret))))
def Ks.q75:List Nat:=[0,1,4,5,6]
def Rs.q75:List RV:=[.tmp 4]
def Dl.q75:List (List Nat):=[]
def Mc.q75:MC:=(.seq (.reg [kz 4 .mv [.c (.int .i64 0)]])
 (.seq (.reg [zm 7 0,zg 8 Fn.q96 [.t 7],zM 5 8])
 (.seq (.reg [zm 9 1,zg 10 Fn.q96 [.t 9],zM 6 10])
 (.seq (.seq (.reg [zm 11 5])
 (.ite (.t 11)
  (.seq (.seq (.reg [zm 12 6])
  (.ite (.t 12)
   (.seq (.reg [kz 4 .mv [.c (.int .i64 0)]])
   .ret)
   .skip))
  (.seq (.reg [kz 4 .mv [.c (.int .i64 (-1))]])
  .ret))
  .skip))
 (.seq (.seq (.reg [zm 13 6])
 (.ite (.t 13)
  (.seq (.reg [kz 4 .mv [.c (.int .i64 1)]])
  .ret)
  .skip))
 (.seq (.seq (.reg [zm 14 0,zm 15 1,zb 16 .lss 14 15])
 (.ite (.t 16)
  (.seq (.reg [kz 4 .mv [.c (.int .i64 (-1))]])
  .ret)
  .skip))
 (.seq (.seq (.reg [zm 17 0,zm 18 1,zb 19 .gtr 17 18])
 (.ite (.t 19)
  (.seq (.reg [kz 4 .mv [.c (.int .i64 1)]])
  .ret)
  .skip))
 (.seq (.reg [kz 4 .mv [.c (.int .i64 0)]])
 .ret))))))))
def Ks.q96:List Nat:=[0,2]
def Rs.q96:List RV:=[.tmp 2]
def Dl.q96:List (List Nat):=[]
def Mc.q96:MC:=(.seq (.reg [kz 2 .mv [.c (.bool false)]])
 (.seq (.reg [zm 3 0,zm 4 0,zb 5 .neq 3 4,zM 2 5])
 .ret))
end Go.Proofs.YtbfcbkjemlgnpaaGreatDoor
namespace Go.Proofs.YtbfcbkjemlgnpaaGreatDoor
def Ks.q41:List Nat:=[0,1,4,5,6,7,8,9,10,11,38,49,65,75,76,77,88]
def Rs.q41:List RV:=[.tmp 4]
def Dl.q41:List (List Nat):=[[8,9],[11]]
def Mc.q41_L0:MC:=(.seq (.reg [zb 78 .lss 77 76])
 (.seq (.ite (.t 78)
  .skip
  (.exit 1))
 (.seq (.blk 2 (.seq (.reg [zm 79 77,zi 80 4 75 77,zL 81 4 80,kz 9 (.alloc [.str [],.str [],.int .i64 0,.int .i64 0]) [],zM 8 79,zs 4 9 81])
 (.reg [zl 82 7,zL 83 4 9,zm 84 8,nz (.mapupA [.s,.s,.i,.i]) [.t 82,.t 83,.t 84]])))
 (.reg [zc 85 .add 77 1,zM 77 85]))))
def Mc.q41_L1:MC:=(.seq (.rgn (.t 88) (some 89) false [ze 90 0 89])
 (.seq (.ite (.t 90)
  .skip
  (.exit 3))
 (.blk 4 (.seq (.reg [iz 91 .ent [.t 88],ze 92 0 91,kz 11 (.alloc [.str [],.str [],.int .i64 0,.int .i64 0,.str [],.str [],.int .i64 0,.int .i64 0,.int .i64 0]) [],zs 9 11 92])
 (.reg [zm 93 10,zL 94 9 11,iz 95 (.bsl false 9) [.t 94],iz 96 (.app false 9 104) [.t 93,.t 95],zM 10 96])))))
def Mc.q41:MC:=(.seq (.reg [kz 4 (.newnil 9) []])
 (.seq (.seq (.reg [zm 12 0,iz 13 (.isnilp false) [.t 12],zm 14 13,gz 14 false 15 .mv [.t 1],gz 14 false 16 (.bin .lss) [.t 15,.c (.int .i64 0)],iz 17 .pick [.t 14,.c (.bool true),.t 16],zm 18 17,gz 18 false 19 .mv [.t 1],gz 18 false 20 .mv [.t 0],gz 18 false 21 .nilck [.t 20],gz 18 false 22 (.fadr 6) [.t 21],gz 18 false 23 (.ld 1 false) [.t 22],gz 18 false 24 (.len 1) [.t 23],gz 18 false 25 (.bin .geq) [.t 19,.t 24],iz 26 .pick [.t 18,.c (.bool true),.t 25]])
 (.ite (.t 26)
  (.seq (.reg [kz 4 (.newnil 9) []])
  .ret)
  .skip))
 (.seq (.reg [zm 27 0,iz 28 .nilck [.t 27],zf 29 6 28,zl 30 29,zm 31 1,zi 32 6 30 31,zL 33 6 32,kz 5 (.alloc [.int .i64 0,.int .i64 0,.nils,.nils,.nils,.str []]) [],zs 6 5 33])
 (.seq (.reg [zm 34 0,iz 35 .mkmap [],iz 36 (.bld [.nilp,.nilm] [(0,1),(1,1)]) [.t 34,.t 35],kz 6 (.alloc [.nilp,.nilm]) [],zs 2 6 36])
 (.seq (.seq (.reg [zf 37 1 5,kz 38 (.ld 1 false) [.t 37]])
 (.blk 0 (.seq (.reg [zc 40 .eql 38 1,zm 39 40])
 (.ite (.t 39)
  (.reg [zL 41 2 6,zL 42 6 5,zg 43 Fn.q43 [.t 41,.t 42]])
  (.seq (.reg [zc 45 .eql 38 2,zm 44 45])
  (.ite (.t 44)
   (.reg [zL 46 2 6,zL 47 6 5,zg 48 Fn.q44 [.t 46,.t 47]])
   (.seq (.seq (.reg [zc 50 .eql 38 3,zM 49 50])
   (.ite (.t 49)
    .skip
    (.reg [zc 51 .eql 38 4,zM 49 51])))
   (.ite (.t 49)
    (.reg [zL 52 2 6,zL 53 6 5,zg 54 Fn.q58 [.t 52,.t 53]])
    (.seq (.reg [zc 56 .eql 38 5,zm 55 56])
    (.ite (.t 55)
     (.reg [zL 57 2 6,zL 58 6 5,zg 59 Fn.q61 [.t 57,.t 58]])
     (.seq (.reg [zc 61 .eql 38 6,zm 60 61])
     (.ite (.t 60)
      (.reg [zL 62 2 6,zL 63 6 5,zg 64 Fn.q54 [.t 62,.t 63]])
      (.seq (.seq (.reg [zc 66 .eql 38 7,zM 65 66])
      (.ite (.t 65)
       .skip
       (.reg [zc 67 .eql 38 8,zM 65 67])))
      (.ite (.t 65)
       (.reg [zL 68 2 6,zL 69 6 5,zg 70 Fn.q59 [.t 68,.t 69]])
       .skip))))))))))))))
 (.seq (.reg [iz 71 .mkmap [],kz 7 (.alloc [.nilm]) [],zs 1 7 71])
 (.seq (.seq (.reg [zm 72 0,zf 73 5 5,zl 74 73,kz 75 (.call Fn.q33) [.t 72,.t 74],kz 76 (.len 1) [.t 75],kz 77 .mv [.c (.int .i64 0)]])
 (.blk 1 (.loop [8,9] Mc.q41_L0)))
 (.seq (.reg [kz 10 (.newnil 9) []])
 (.seq (.seq (.reg [zf 86 1 6,zl 87 86,kz 88 .rngm [.t 87]])
 (.blk 3 (.loop [11] Mc.q41_L1)))
 (.seq (.reg [zm 97 10,iz 98 (.mkfn Fn.q35) [.t 7],zg 99 Fn.q14 [.t 97,.t 98]])
 (.seq (.reg [zm 100 10,zM 4 100])
 .ret)))))))))))
def Ks.q35:List Nat:=[0,1,2,3,4,5]
def Rs.q35:List RV:=[.tmp 5]
def Dl.q35:List (List Nat):=[]
def Mc.q35:MC:=(.seq (.reg [kz 3 .box [.t 0],kz 4 .box [.t 1],kz 5 .mv [.c (.int .i64 0)]])
 (.seq (.rgd [zl 6 2,zf 7 0 3,zL 8 4 7,iz 9 (.lookA [.s,.s,.i,.i] false (.int .i64 0)) [.t 6,.t 8],zl 10 2,zf 11 0 4,zL 12 4 11,iz 13 (.lookA [.s,.s,.i,.i] false (.int .i64 0)) [.t 10,.t 12],zg 14 Fn.q75 [.t 9,.t 13],zf 15 4 3,zL 16 4 15,zf 17 4 4,zL 18 4 17,zg 19 Fn.q93 [.t 16,.t 18],zf 20 8 3,zl 21 20,zf 22 8 4,zl 23 22,zg 24 Fn.q75 [.t 21,.t 23],iz 25 (.bsl false 1) [.t 14,.t 19,.t 24],zg 26 Fn.cmp_Or_int_ [.t 25],zM 5 26])
 .ret))
def Ks.q93:List Nat:=[0,1,2,3,4]
def Rs.q93:List RV:=[.tmp 4]
def Dl.q93:List (List Nat):=[]
def Mc.q93:MC:=(.seq (.reg [kz 2 .box [.t 0],kz 3 .box [.t 1],kz 4 .mv [.c (.int .i64 0)]])
 (.seq (.seq (.reg [zL 5 4 2,zL 6 4 3,iz 7 (.eqA false [.s,.s,.i,.i]) [.t 5,.t 6]])
 (.ite (.t 7)
  (.seq (.reg [kz 4 .mv [.c (.int .i64 0)]])
  .ret)
  .skip))
 (.seq (.rgd [zf 8 0 2,zl 9 8,zf 10 0 3,zl 11 10,zg 12 Fn.q83 [.t 9,.t 11],zf 13 1 2,zl 14 13,zf 15 1 3,zl 16 15,zg 17 Fn.q83 [.t 14,.t 16],zf 18 2 2,zl 19 18,zf 20 2 3,zl 21 20,zg 22 Fn.q75 [.t 19,.t 21],zf 23 3 2,zl 24 23,zf 25 3 3,zl 26 25,zg 27 Fn.q75 [.t 24,.t 26],iz 28 (.bsl false 1) [.t 12,.t 17,.t 22,.t 27],zg 29 Fn.cmp_Or_int_ [.t 28],zM 4 29])
 .ret)))
def Ks.q14:List Nat:=[0,1,4]
def Rs.q14:List RV:=[]
def Dl.q14:List (List Nat):=[]
def Mc.q14:MC:=(.seq (.reg [zm 5 0,zn 6 1 5,zM 4 6])
 (.reg [zm 7 0,zm 8 4,zm 9 4,iz 10 (.conv .u64) [.t 9],zg 11 Fn.q104 [.t 10],zm 12 1,zg 13 Fn.q27 [.t 7,.c (.int .i64 0),.t 8,.t 11,.t 12]]))
def Ks.q27:List Nat:=[0,1,2,3,4,10,11,12,13,14,15,16,17,18,19,20]
def Rs.q27:List RV:=[]
def Dl.q27:List (List Nat):=[[12,13,14,15,16,17,18,19,20]]
def Mc.q27_L0:MC:=(.blk 1 (.seq (.reg [zm 21 2,zm 22 1,zb 23 .sub 21 22,zM 12 23])
 (.seq (.seq (.reg [zm 24 12,zc 25 .leq 24 12])
 (.ite (.t 25)
  (.seq (.reg [zm 26 0,zm 27 1,zm 28 2,zm 29 4,zg 30 Fn.q12 [.t 26,.t 27,.t 28,.t 29]])
  .ret)
  .skip))
 (.seq (.seq (.reg [zm 31 3,zc 32 .eql 31 0])
 (.ite (.t 32)
  (.seq (.reg [zm 33 0,zm 34 1,zm 35 2,zm 36 4,zg 37 Fn.q26 [.t 33,.t 34,.t 35,.t 36]])
  .ret)
  .skip))
 (.seq (.seq (.reg [zm 38 10,iz 39 (.un .not) [.t 38]])
 (.ite (.t 39)
  (.seq (.reg [zm 40 0,zm 41 1,zm 42 2,zm 43 4,zg 44 Fn.q13 [.t 40,.t 41,.t 42,.t 43]])
  (.reg [zm 45 3,zc 46 .sub 45 1,zM 3 46]))
  .skip))
 (.seq (.reg [zm 48 0,zm 49 1,zm 50 2,zm 51 4,zg 52 Fn.q19 [.t 48,.t 49,.t 50,.t 51],zm 47 52,ze 53 0 47,ze 54 1 47,zM 13 53,zM 14 54])
 (.seq (.seq (.reg [zm 55 14,zc 56 .eql 55 2])
 (.ite (.t 56)
  (.seq (.reg [zm 57 0,zm 58 1,zm 59 2,zm 60 4,zg 61 Fn.q17 [.t 57,.t 58,.t 59,.t 60]])
  (.seq (.reg [zm 62 2,zc 63 .sub 62 1,zm 64 13,zm 65 1,zb 66 .sub 64 65,zb 67 .sub 63 66,zM 13 67])
  (.reg [kz 14 .mv [.c (.int .i64 1)]])))
  .skip))
 (.seq (.seq (.reg [zm 68 10,zm 69 68,gz 69 true 70 .mv [.t 11],iz 71 .pick [.t 69,.t 70,.c (.bool false)],zm 72 71,gz 72 true 73 .mv [.t 14],gz 72 true 74 (.bin .eql) [.t 73,.c (.int .i64 1)],iz 75 .pick [.t 72,.t 74,.c (.bool false)]])
 (.ite (.t 75)
  (.seq (.reg [zm 76 0,zm 77 1,zm 78 2,zm 79 4,zg 80 Fn.q9 [.t 76,.t 77,.t 78,.t 79]])
  (.ite (.t 80)
   .ret
   .skip))
  .skip))
 (.seq (.seq (.rgd [zm 81 1,zc 82 .gtr 81 0,zm 83 82,gz 83 true 84 .mv [.t 4],gz 83 true 85 .mv [.t 0],gz 83 true 86 .mv [.t 1],gz 83 true 87 (.bin .sub) [.t 86,.c (.int .i64 1)],gz 83 true 88 (.iadr 9) [.t 85,.t 87],gz 83 true 89 (.ld 9 true) [.t 88],gz 83 true 90 .mv [.t 0],gz 83 true 91 .mv [.t 13],gz 83 true 92 (.iadr 9) [.t 90,.t 91],gz 83 true 93 (.ld 9 true) [.t 92],gz 83 true 94 .callv [.t 84,.t 89,.t 93],gz 83 true 95 (.bin .lss) [.t 94,.c (.int .i64 0)],gz 83 true 96 (.un .not) [.t 95],iz 97 .pick [.t 83,.t 96,.c (.bool false)]])
 (.ite (.t 97)
  (.seq (.reg [zm 98 0,zm 99 1,zm 100 2,zm 101 13,zm 102 4,zg 103 Fn.q11 [.t 98,.t 99,.t 100,.t 101,.t 102],zM 15 103])
  (.seq (.reg [zm 104 15,zM 1 104])
  (.exit 1)))
  .skip))
 (.seq (.reg [zm 106 0,zm 107 1,zm 108 2,zm 109 13,zm 110 4,zg 111 Fn.q22 [.t 106,.t 107,.t 108,.t 109,.t 110],zm 105 111,ze 112 0 105,ze 113 1 105,zM 16 112,zM 17 113])
 (.seq (.reg [zm 114 17,zM 11 114])
 (.seq (.reg [zm 115 16,zm 116 1,zb 117 .sub 115 116,zm 118 2,zm 119 16,zb 120 .sub 118 119,zM 18 117,zM 19 120])
 (.seq (.reg [zm 121 12,zc 122 .quo 121 8,zM 20 122])
 (.seq (.reg [zm 123 18,zm 124 19,zb 125 .lss 123 124])
 (.ite (.t 125)
  (.seq (.reg [zm 126 18,zm 127 20,zb 128 .geq 126 127,zM 10 128])
  (.seq (.reg [zm 129 0,zm 130 1,zm 131 16,zm 132 3,zm 133 4,zg 134 Fn.q27 [.t 129,.t 130,.t 131,.t 132,.t 133]])
  (.reg [zm 135 16,zc 136 .add 135 1,zM 1 136])))
  (.seq (.reg [zm 137 19,zm 138 20,zb 139 .geq 137 138,zM 10 139])
  (.seq (.reg [zm 140 0,zm 141 16,zc 142 .add 141 1,zm 143 2,zm 144 3,zm 145 4,zg 146 Fn.q27 [.t 140,.t 142,.t 143,.t 144,.t 145]])
  (.reg [zm 147 16,zM 2 147]))))))))))))))))))
def Mc.q27:MC:=(.seq (.reg [kz 10 .mv [.c (.bool true)]])
 (.seq (.reg [kz 11 .mv [.c (.bool true)]])
 (.blk 0 (.loop [12,13,14,15,16,17,18,19,20] Mc.q27_L0))))
def Ks.q12:List Nat:=[0,1,2,3,8,9]
def Rs.q12:List RV:=[]
def Dl.q12:List (List Nat):=[[9],[]]
def Mc.q12_L1:MC:=(.seq (.seq (.rgd [zm 18 9,zm 19 1,zb 20 .gtr 18 19,zm 21 20,gz 21 true 22 .mv [.t 3],gz 21 true 23 .mv [.t 0],gz 21 true 24 .mv [.t 9],gz 21 true 25 (.iadr 9) [.t 23,.t 24],gz 21 true 26 (.ld 9 true) [.t 25],gz 21 true 27 .mv [.t 0],gz 21 true 28 .mv [.t 9],gz 21 true 29 (.bin .sub) [.t 28,.c (.int .i64 1)],gz 21 true 30 (.iadr 9) [.t 27,.t 29],gz 21 true 31 (.ld 9 true) [.t 30],gz 21 true 32 .callv [.t 22,.t 26,.t 31],gz 21 true 33 (.bin .lss) [.t 32,.c (.int .i64 0)],iz 34 .pick [.t 21,.t 33,.c (.bool false)]])
 (.ite (.t 34)
  .skip
  (.exit 2)))
 (.seq (.blk 3 (.rgd [zm 37 0,zm 38 9,zm 39 0,zm 40 9,zc 41 .sub 40 1,zm 42 0,zm 43 9,zc 44 .sub 43 1,zi 45 9 42 44,zL 46 9 45,zm 47 0,zm 48 9,zi 49 9 47 48,zL 50 9 49,zi 51 9 37 38,zs 9 51 46,zi 52 9 39 41,zs 9 52 50]))
 (.reg [zm 35 9,zc 36 .sub 35 1,zM 9 36])))
def Mc.q12_L0:MC:=(.seq (.seq (.reg [zm 12 8,zm 13 2,zb 14 .lss 12 13])
 (.ite (.t 14)
  .skip
  (.exit 0)))
 (.seq (.blk 1 (.seq (.reg [zm 17 8,zM 9 17])
 (.blk 2 (.loop [] Mc.q12_L1))))
 (.reg [zm 15 8,zc 16 .add 15 1,zM 8 16])))
def Mc.q12:MC:=(.seq (.reg [zm 10 1,zc 11 .add 10 1,zM 8 11])
 (.blk 0 (.loop [9] Mc.q12_L0)))
end Go.Proofs.YtbfcbkjemlgnpaaGreatDoor
