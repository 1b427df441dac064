/- The functions,resolved: by program (Gen.lean). -/
import Derived.Test.YtopiadllkglamaaGreatDoorWRecIds
namespace Go.Proofs.YtopiadllkglamaaGreatDoor
abbrev iz (d : Nat) (o : AO) (a : List At) : MI := ⟨none,some d,false,o,a⟩
abbrev kz (d : Nat) (o : AO) (a : List At) : MI := ⟨none,some d,true,o,a⟩
abbrev nz (o : AO) (a : List At) : MI := ⟨none,none,false,o,a⟩
def Ks.q62 : List Nat := [0,1,2,6,7,9,14,15,16]
def Rs.q62 : List RV := [.tmp 6]
def Dl.q62 : List (List Nat) := [[9]]
def Mc.q62_L0 : MC := (.seq (.reg [
 iz 17 (.bin .lss) [.t 16,.t 15]])
 (.seq (.ite (.t 17)
 .skip
 (.exit 0))
 (.seq (.blk 1 (.seq (.reg [
 iz 18 (.iadr 2) [.t 14,.t 16],
 iz 19 (.ld 2 true) [.t 18],
 kz 9 (.alloc [.str [],.str []]) [],
 nz (.st 2) [.t 9,.t 19]])
 (.seq (.reg [
 iz 20 .mv [.t 7],
 iz 21 (.fadr 1) [.t 9],
 iz 22 (.ld 1 false) [.t 21],
 iz 23 (.len 0) [.t 22],
 iz 24 (.bin .add) [.t 20,.t 23],
 kz 7 .mv [.t 24]])
 (.seq (.reg [
 iz 25 (.fadr 0) [.t 9],
 iz 26 (.ld 1 false) [.t 25],
 iz 27 (.len 0) [.t 26],
 iz 28 (.bin .gtr) [.t 27,.c (.int .i64 300)],
 iz 29 .mv [.t 28],
 ⟨some (29,false),some 30,false,.mv,[.t 7]⟩,
 ⟨some (29,false),some 31,false,.mv,[.t 2]⟩,
 ⟨some (29,false),some 32,false,.bin .gtr,[.t 30,.t 31]⟩,
 iz 33 .pick [.t 29,.c (.bool true),.t 32]])
 (.ite (.t 33)
 (.seq (.reg [
 kz 6 .mv [.c (.bool false)]])
 .ret)
 .skip)))))
 (.reg [
 iz 34 (.bin .add) [.t 16,.c (.int .i64 1)],
 kz 16 .mv [.t 34]]))))
def Mc.q62 : MC := (.seq (.reg [
 kz 6 .mv [.c (.bool false)]])
 (.seq (.seq (.reg [
 iz 10 .mv [.t 0],
 iz 11 (.len 1) [.t 10],
 iz 12 .mv [.t 1],
 iz 13 (.bin .gtr) [.t 11,.t 12]])
 (.ite (.t 13)
 (.seq (.reg [
 kz 6 .mv [.c (.bool false)]])
 .ret)
 .skip))
 (.seq (.reg [
 kz 7 .mv [.c (.int .i64 0)]])
 (.seq (.seq (.reg [
 kz 14 .mv [.t 0],
 kz 15 (.len 1) [.t 14],
 kz 16 .mv [.c (.int .i64 0)]])
 (.blk 0 (.loop [9] Mc.q62_L0)))
 (.seq (.reg [
 kz 6 .mv [.c (.bool true)]])
 .ret)))))
def Ks.bundle_Read : List Nat := [0,2,3,4,5,6,7,8,10,11,12,14,15,83,84,85]
def Rs.bundle_Read : List RV := [.tmp 2,.tmp 3,.tmp 4]
def Dl.bundle_Read : List (List Nat) := [[14,15]]
def Mc.bundle_Read_L0 : MC := (.seq (.reg [
 iz 86 (.bin .lss) [.t 85,.t 84]])
 (.seq (.ite (.t 86)
 .skip
 (.exit 0))
 (.seq (.blk 1 (.seq (.reg [
 iz 87 (.iadr 1) [.t 83,.t 85],
 iz 88 (.ld 1 false) [.t 87],
 kz 14 .mv [.t 88]])
 (.seq (.reg [
 iz 89 .mv [.t 14],
 iz 90 (.iadr 1) [.t 89,.c (.int .i64 0)],
 iz 91 (.ld 1 false) [.t 90],
 iz 92 (.bin .eql) [.t 91,.c (.str [112,97,112,101,114])],
 iz 93 .mv [.t 92],
 ⟨some (93,true),some 94,false,.mv,[.t 12]⟩,
 ⟨some (93,true),some 95,false,.look .s false (.int .i64 0),[.t 94,.c (.str [115,111,117,114,99,101])]⟩,
 ⟨some (93,true),some 96,false,.bin .eql,[.t 95,.c (.int .i64 0)]⟩,
 iz 97 .pick [.t 93,.t 96,.c (.bool false)],
 iz 98 .mv [.t 97],
 ⟨some (98,false),some 99,false,.mv,[.t 14]⟩,
 ⟨some (98,false),some 100,false,.iadr 1,[.t 99,.c (.int .i64 0)]⟩,
 ⟨some (98,false),some 101,false,.ld 1 false,[.t 100]⟩,
 ⟨some (98,false),some 102,false,.bin .eql,[.t 101,.c (.str [115,111,117,114,99,101])]⟩,
 iz 103 .pick [.t 98,.c (.bool true),.t 102],
 kz 15 .mv [.t 103]])
 (.seq (.seq (.rgd [
 iz 104 .mv [.t 15],
 iz 105 (.un .not) [.t 104],
 iz 106 .mv [.t 105],
 ⟨some (106,false),some 107,false,.mv,[.t 14]⟩,
 ⟨some (106,false),some 108,false,.call Fn.bundle_file,[.t 107]⟩,
 ⟨some (106,false),some 109,false,.un .not,[.t 108]⟩,
 iz 110 .pick [.t 106,.c (.bool true),.t 109],
 iz 111 .mv [.t 110],
 ⟨some (111,false),some 112,false,.mv,[.t 14]⟩,
 ⟨some (111,false),some 113,false,.iadr 1,[.t 112,.c (.int .i64 1)]⟩,
 ⟨some (111,false),some 114,false,.ld 1 false,[.t 113]⟩,
 ⟨some (111,false),some 115,false,.mv,[.t 11]⟩,
 ⟨some (111,false),some 116,false,.mv,[.t 14]⟩,
 ⟨some (111,false),some 117,false,.iadr 1,[.t 116,.c (.int .i64 0)]⟩,
 ⟨some (111,false),some 118,false,.ld 1 false,[.t 117]⟩,
 ⟨some (111,false),some 119,false,.look .s false (.str []),[.t 115,.t 118]⟩,
 ⟨some (111,false),some 120,false,.bin .leq,[.t 114,.t 119]⟩,
 iz 121 .pick [.t 111,.c (.bool true),.t 120],
 iz 122 .mv [.t 121],
 ⟨some (122,false),some 123,false,.mv,[.t 12]⟩,
 ⟨some (122,false),some 124,false,.mv,[.t 14]⟩,
 ⟨some (122,false),some 125,false,.iadr 1,[.t 124,.c (.int .i64 0)]⟩,
 ⟨some (122,false),some 126,false,.ld 1 false,[.t 125]⟩,
 ⟨some (122,false),some 127,false,.look .s false (.int .i64 0),[.t 123,.t 126]⟩,
 ⟨some (122,false),some 128,false,.bin .eql,[.t 127,.c (.int .i64 64)]⟩,
 iz 129 .pick [.t 122,.c (.bool true),.t 128]])
 (.ite (.t 129)
 (.seq (.reg [
 kz 2 .mv [.c (.str [])],
 kz 3 .mv [.c (.str [])],
 kz 4 .mv [.c (.int .i64 17)]])
 .ret)
 .skip))
 (.seq (.rgd [
 iz 130 .mv [.t 11],
 iz 131 .mv [.t 14],
 iz 132 (.iadr 1) [.t 131,.c (.int .i64 0)],
 iz 133 (.ld 1 false) [.t 132],
 iz 134 .mv [.t 14],
 iz 135 (.iadr 1) [.t 134,.c (.int .i64 1)],
 iz 136 (.ld 1 false) [.t 135],
 nz (.mapup .s) [.t 130,.t 133,.t 136]])
 (.reg [
 iz 137 .mv [.t 12],
 iz 138 .mv [.t 14],
 iz 139 (.iadr 1) [.t 138,.c (.int .i64 0)],
 iz 140 (.ld 1 false) [.t 139],
 iz 141 (.look .s false (.int .i64 0)) [.t 137,.t 140],
 iz 142 (.bin .add) [.t 141,.c (.int .i64 1)],
 nz (.mapup .s) [.t 137,.t 140,.t 142]]))))))
 (.reg [
 iz 143 (.bin .add) [.t 85,.c (.int .i64 1)],
 kz 85 .mv [.t 143]]))))
def Mc.bundle_Read : MC := (.seq (.reg [
 kz 2 .mv [.c (.str [])],
 kz 3 .mv [.c (.str [])],
 kz 4 .mv [.c (.int .i64 0)]])
 (.seq (.reg [
 iz 17 .mv [.t 0],
 iz 18 (.call Fn.bundle_rows) [.t 17],
 iz 16 .mv [.t 18],
 iz 19 (.ext 0) [.t 16],
 iz 20 (.ext 1) [.t 16],
 kz 5 .mv [.t 19],
 kz 6 .mv [.t 20]])
 (.seq (.seq (.reg [
 iz 21 .mv [.t 6],
 iz 22 (.un .not) [.t 21],
 iz 23 .mv [.t 22],
 ⟨some (23,false),some 24,false,.mv,[.t 5]⟩,
 ⟨some (23,false),some 25,false,.len 1,[.t 24]⟩,
 ⟨some (23,false),some 26,false,.bin .lss,[.t 25,.c (.int .i64 2)]⟩,
 iz 27 .pick [.t 23,.c (.bool true),.t 26],
 iz 28 .mv [.t 27],
 ⟨some (28,false),some 29,false,.mv,[.t 5]⟩,
 ⟨some (28,false),some 30,false,.iadr 1,[.t 29,.c (.int .i64 0)]⟩,
 ⟨some (28,false),some 31,false,.ld 1 false,[.t 30]⟩,
 ⟨some (28,false),some 32,false,.len 1,[.t 31]⟩,
 ⟨some (28,false),some 33,false,.bin .neq,[.t 32,.c (.int .i64 2)]⟩,
 iz 34 .pick [.t 28,.c (.bool true),.t 33],
 iz 35 .mv [.t 34],
 ⟨some (35,false),some 36,false,.mv,[.t 5]⟩,
 ⟨some (35,false),some 37,false,.iadr 1,[.t 36,.c (.int .i64 1)]⟩,
 ⟨some (35,false),some 38,false,.ld 1 false,[.t 37]⟩,
 ⟨some (35,false),some 39,false,.len 1,[.t 38]⟩,
 ⟨some (35,false),some 40,false,.bin .neq,[.t 39,.c (.int .i64 2)]⟩,
 iz 41 .pick [.t 35,.c (.bool true),.t 40],
 iz 42 .mv [.t 41],
 ⟨some (42,false),some 43,false,.mv,[.t 5]⟩,
 ⟨some (42,false),some 44,false,.iadr 1,[.t 43,.c (.int .i64 0)]⟩,
 ⟨some (42,false),some 45,false,.ld 1 false,[.t 44]⟩,
 ⟨some (42,false),some 46,false,.iadr 1,[.t 45,.c (.int .i64 0)]⟩,
 ⟨some (42,false),some 47,false,.ld 1 false,[.t 46]⟩,
 ⟨some (42,false),some 48,false,.bin .neq,[.t 47,.c (.str [111,117,116,112,117,116])]⟩,
 iz 49 .pick [.t 42,.c (.bool true),.t 48],
 iz 50 .mv [.t 49],
 ⟨some (50,false),some 51,false,.mv,[.t 5]⟩,
 ⟨some (50,false),some 52,false,.iadr 1,[.t 51,.c (.int .i64 1)]⟩,
 ⟨some (50,false),some 53,false,.ld 1 false,[.t 52]⟩,
 ⟨some (50,false),some 54,false,.iadr 1,[.t 53,.c (.int .i64 0)]⟩,
 ⟨some (50,false),some 55,false,.ld 1 false,[.t 54]⟩,
 ⟨some (50,false),some 56,false,.bin .neq,[.t 55,.c (.str [98,105,110,97,114,121])]⟩,
 iz 57 .pick [.t 50,.c (.bool true),.t 56]])
 (.ite (.t 57)
 (.seq (.reg [
 kz 2 .mv [.c (.str [])],
 kz 3 .mv [.c (.str [])],
 kz 4 .mv [.c (.int .i64 17)]])
 .ret)
 .skip))
 (.seq (.rgd [
 iz 58 .mv [.t 5],
 iz 59 (.iadr 1) [.t 58,.c (.int .i64 0)],
 iz 60 (.ld 1 false) [.t 59],
 iz 61 (.iadr 1) [.t 60,.c (.int .i64 1)],
 iz 62 (.ld 1 false) [.t 61],
 iz 63 .mv [.t 5],
 iz 64 (.iadr 1) [.t 63,.c (.int .i64 1)],
 iz 65 (.ld 1 false) [.t 64],
 iz 66 (.iadr 1) [.t 65,.c (.int .i64 1)],
 iz 67 (.ld 1 false) [.t 66],
 kz 7 .mv [.t 62],
 kz 8 .mv [.t 67]])
 (.seq (.seq (.reg [
 iz 69 .mv [.t 8],
 iz 70 (.call Fn.q74) [.t 69],
 iz 68 .mv [.t 70],
 iz 71 (.ext 0) [.t 68],
 iz 72 (.ext 1) [.t 68],
 iz 9 .mv [.t 71],
 kz 10 .mv [.t 72]])
 (.seq (.reg [
 iz 73 .mv [.t 10],
 iz 74 (.bin .neq) [.t 73,.c (.int .i64 0)],
 iz 75 .mv [.t 74],
 ⟨some (75,false),some 76,false,.mv,[.t 7]⟩,
 ⟨some (75,false),some 77,false,.call Fn.tree_Path,[.t 76]⟩,
 ⟨some (75,false),some 78,false,.bin .neq,[.t 77,.c (.int .i64 0)]⟩,
 iz 79 .pick [.t 75,.c (.bool true),.t 78]])
 (.ite (.t 79)
 (.seq (.reg [
 kz 2 .mv [.c (.str [])],
 kz 3 .mv [.c (.str [])],
 kz 4 .mv [.c (.int .i64 17)]])
 .ret)
 .skip)))
 (.seq (.reg [
 iz 80 .mkmap [],
 kz 11 .mv [.t 80]])
 (.seq (.reg [
 iz 81 .mkmap [],
 kz 12 .mv [.t 81]])
 (.seq (.seq (.reg [
 iz 82 .mv [.t 5],
 kz 83 (.slc (some 1) true false false) [.t 82,.c (.int .i64 2)],
 kz 84 (.len 1) [.t 83],
 kz 85 .mv [.c (.int .i64 0)]])
 (.blk 0 (.loop [14,15] Mc.bundle_Read_L0)))
 (.seq (.reg [
 iz 144 .mv [.t 7],
 iz 145 .mv [.t 8],
 kz 2 .mv [.t 144],
 kz 3 .mv [.t 145],
 kz 4 .mv [.c (.int .i64 0)]])
 .ret)))))))))
def Ks.tree_Check : List Nat := [0,2,3,4,8,9,10]
def Rs.tree_Check : List RV := [.tmp 2]
def Dl.tree_Check : List (List Nat) := [[3,4]]
def Mc.tree_Check_L0 : MC := (.seq (.reg [
 iz 11 (.bin .lss) [.t 10,.t 9]])
 (.seq (.ite (.t 11)
 .skip
 (.exit 0))
 (.seq (.blk 1 (.seq (.reg [
 iz 12 .mv [.t 10],
 iz 13 (.iadr 2) [.t 8,.t 10],
 iz 14 (.ld 2 true) [.t 13],
 kz 4 (.alloc [.str [],.str []]) [],
 kz 3 .mv [.t 12],
 nz (.st 2) [.t 4,.t 14]])
 (.blk 2 (.seq (.reg [
 iz 16 (.fadr 0) [.t 4],
 iz 17 (.ld 1 false) [.t 16],
 iz 18 (.call Fn.tree_Path) [.t 17],
 iz 19 (.bin .neq) [.t 18,.c (.int .i64 0)],
 iz 15 .mv [.t 19]])
 (.ite (.t 15)
 (.seq (.reg [
 kz 2 .mv [.c (.int .i64 2)]])
 .ret)
 (.seq (.reg [
 iz 21 (.fadr 1) [.t 4],
 iz 22 (.ld 1 false) [.t 21],
 iz 23 (.len 0) [.t 22],
 iz 24 (.bin .gtr) [.t 23,.c (.int .i64 65536)],
 iz 20 .mv [.t 24]])
 (.ite (.t 20)
 (.seq (.reg [
 kz 2 .mv [.c (.int .i64 10)]])
 .ret)
 (.seq (.rgd [
 iz 26 .mv [.t 3],
 iz 27 (.bin .gtr) [.t 26,.c (.int .i64 0)],
 iz 28 .mv [.t 27],
 ⟨some (28,true),some 29,false,.mv,[.t 0]⟩,
 ⟨some (28,true),some 30,false,.mv,[.t 3]⟩,
 ⟨some (28,true),some 31,false,.bin .sub,[.t 30,.c (.int .i64 1)]⟩,
 ⟨some (28,true),some 32,false,.iadr 2,[.t 29,.t 31]⟩,
 ⟨some (28,true),some 33,false,.fadr 0,[.t 32]⟩,
 ⟨some (28,true),some 34,false,.ld 1 false,[.t 33]⟩,
 ⟨some (28,true),some 35,false,.fadr 0,[.t 4]⟩,
 ⟨some (28,true),some 36,false,.ld 1 false,[.t 35]⟩,
 ⟨some (28,true),some 37,false,.bin .geq,[.t 34,.t 36]⟩,
 iz 38 .pick [.t 28,.t 37,.c (.bool false)],
 iz 25 .mv [.t 38]])
 (.ite (.t 25)
 (.seq (.reg [
 kz 2 .mv [.c (.int .i64 5)]])
 .ret)
 (.seq (.reg [
 iz 40 .mv [.t 0],
 iz 41 .mv [.t 3],
 iz 42 (.slc (some 2) false true false) [.t 40,.t 41],
 iz 43 (.mkfn Fn.q76) [.t 4],
 iz 44 (.call Fn.q9) [.t 42,.t 43],
 iz 39 .mv [.t 44]])
 (.ite (.t 39)
 (.seq (.reg [
 kz 2 .mv [.c (.int .i64 6)]])
 .ret)
 .skip)))))))))))
 (.reg [
 iz 45 (.bin .add) [.t 10,.c (.int .i64 1)],
 kz 10 .mv [.t 45]]))))
def Mc.tree_Check : MC := (.seq (.reg [
 kz 2 .mv [.c (.int .i64 0)]])
 (.seq (.seq (.reg [
 iz 5 .mv [.t 0],
 iz 6 (.len 1) [.t 5],
 iz 7 (.bin .gtr) [.t 6,.c (.int .i64 64)]])
 (.ite (.t 7)
 (.seq (.reg [
 kz 2 .mv [.c (.int .i64 10)]])
 .ret)
 .skip))
 (.seq (.seq (.reg [
 kz 8 .mv [.t 0],
 kz 9 (.len 1) [.t 8],
 kz 10 .mv [.c (.int .i64 0)]])
 (.blk 0 (.loop [3,4] Mc.tree_Check_L0)))
 (.seq (.reg [
 kz 2 .mv [.c (.int .i64 0)]])
 .ret))))
def Ks.q46 : List Nat := [0,2,3,4,5,9,10,11]
def Rs.q46 : List RV := [.tmp 2]
def Dl.q46 : List (List Nat) := [[3,4,5],[]]
def Mc.q46_L1 : MC := (.seq (.seq (.reg [
 iz 37 .mv [.t 5],
 iz 38 .mv [.t 3],
 iz 39 (.bin .lss) [.t 37,.t 38]])
 (.ite (.t 39)
 .skip
 (.exit 2)))
 (.seq (.blk 3 (.seq (.rgd [
 iz 42 (.fadr 0) [.t 4],
 iz 43 (.ld 1 false) [.t 42],
 iz 44 .mv [.t 0],
 iz 45 .mv [.t 5],
 iz 46 (.iadr 2) [.t 44,.t 45],
 iz 47 (.fadr 0) [.t 46],
 iz 48 (.ld 1 false) [.t 47],
 iz 49 (.call Fn.q49) [.t 43,.t 48]])
 (.ite (.t 49)
 (.seq (.reg [
 kz 2 .mv [.c (.int .i64 6)]])
 .ret)
 .skip)))
 (.reg [
 iz 40 .mv [.t 5],
 iz 41 (.bin .add) [.t 40,.c (.int .i64 1)],
 kz 5 .mv [.t 41]])))
def Mc.q46_L0 : MC := (.seq (.reg [
 iz 12 (.bin .lss) [.t 11,.t 10]])
 (.seq (.ite (.t 12)
 .skip
 (.exit 0))
 (.seq (.blk 1 (.seq (.reg [
 iz 13 .mv [.t 11],
 iz 14 (.iadr 2) [.t 9,.t 11],
 iz 15 (.ld 2 true) [.t 14],
 kz 4 (.alloc [.str [],.str []]) [],
 kz 3 .mv [.t 13],
 nz (.st 2) [.t 4,.t 15]])
 (.seq (.seq (.reg [
 iz 16 (.fadr 0) [.t 4],
 iz 17 (.ld 1 false) [.t 16],
 iz 18 (.call Fn.q58) [.t 17],
 iz 19 (.bin .neq) [.t 18,.c (.int .i64 0)]])
 (.ite (.t 19)
 (.seq (.reg [
 kz 2 .mv [.c (.int .i64 2)]])
 .ret)
 .skip))
 (.seq (.seq (.reg [
 iz 20 (.fadr 1) [.t 4],
 iz 21 (.ld 1 false) [.t 20],
 iz 22 (.len 0) [.t 21],
 iz 23 (.bin .gtr) [.t 22,.c (.int .i64 65536)]])
 (.ite (.t 23)
 (.seq (.reg [
 kz 2 .mv [.c (.int .i64 10)]])
 .ret)
 .skip))
 (.seq (.seq (.rgd [
 iz 24 .mv [.t 3],
 iz 25 (.bin .gtr) [.t 24,.c (.int .i64 0)],
 iz 26 .mv [.t 25],
 ⟨some (26,true),some 27,false,.fadr 0,[.t 4]⟩,
 ⟨some (26,true),some 28,false,.ld 1 false,[.t 27]⟩,
 ⟨some (26,true),some 29,false,.mv,[.t 0]⟩,
 ⟨some (26,true),some 30,false,.mv,[.t 3]⟩,
 ⟨some (26,true),some 31,false,.bin .sub,[.t 30,.c (.int .i64 1)]⟩,
 ⟨some (26,true),some 32,false,.iadr 2,[.t 29,.t 31]⟩,
 ⟨some (26,true),some 33,false,.fadr 0,[.t 32]⟩,
 ⟨some (26,true),some 34,false,.ld 1 false,[.t 33]⟩,
 ⟨some (26,true),some 35,false,.bin .leq,[.t 28,.t 34]⟩,
 iz 36 .pick [.t 26,.t 35,.c (.bool false)]])
 (.ite (.t 36)
 (.seq (.reg [
 kz 2 .mv [.c (.int .i64 5)]])
 .ret)
 .skip))
 (.seq (.reg [
 kz 5 .mv [.c (.int .i64 0)]])
 (.blk 2 (.loop [] Mc.q46_L1))))))))
 (.reg [
 iz 50 (.bin .add) [.t 11,.c (.int .i64 1)],
 kz 11 .mv [.t 50]]))))
def Mc.q46 : MC := (.seq (.reg [
 kz 2 .mv [.c (.int .i64 0)]])
 (.seq (.seq (.reg [
 iz 6 .mv [.t 0],
 iz 7 (.len 1) [.t 6],
 iz 8 (.bin .gtr) [.t 7,.c (.int .i64 64)]])
 (.ite (.t 8)
 (.seq (.reg [
 kz 2 .mv [.c (.int .i64 10)]])
 .ret)
 .skip))
 (.seq (.seq (.reg [
 kz 9 .mv [.t 0],
 kz 10 (.len 1) [.t 9],
 kz 11 .mv [.c (.int .i64 0)]])
 (.blk 0 (.loop [3,4,5] Mc.q46_L0)))
 (.seq (.reg [
 kz 2 .mv [.c (.int .i64 0)]])
 .ret))))
def Ks.bundle_rows : List Nat := [0,2,3,4,5,6,7,8]
def Rs.bundle_rows : List RV := [.tmp 2,.tmp 3]
def Dl.bundle_rows : List (List Nat) := [[5,6,7,8]]
def Mc.bundle_rows_L0 : MC := (.seq (.seq (.reg [
 iz 9 .mv [.t 0],
 iz 10 (.bin .neq) [.t 9,.c (.str [])]])
 (.ite (.t 10)
 .skip
 (.exit 0)))
 (.blk 1 (.seq (.reg [
 iz 12 .mv [.t 0],
 iz 13 (.call Fn.strings_Cut) [.t 12,.c (.str [10])],
 iz 11 .mv [.t 13],
 iz 14 (.ext 0) [.t 11],
 iz 15 (.ext 1) [.t 11],
 iz 16 (.ext 2) [.t 11],
 kz 5 .mv [.t 14],
 kz 6 .mv [.t 15],
 kz 7 .mv [.t 16]])
 (.seq (.reg [
 iz 17 .mv [.t 5],
 iz 18 (.call Fn.q70) [.t 17,.c (.str [32])],
 kz 8 .mv [.t 18]])
 (.seq (.seq (.reg [
 iz 19 .mv [.t 7],
 iz 20 (.un .not) [.t 19],
 iz 21 .mv [.t 20],
 ⟨some (21,false),some 22,false,.mv,[.t 8]⟩,
 ⟨some (21,false),some 23,false,.call Fn.q14,[.t 22,.c (.str [])]⟩,
 iz 24 .pick [.t 21,.c (.bool true),.t 23]])
 (.ite (.t 24)
 (.seq (.reg [
 kz 2 (.newnil 1) [],
 kz 3 .mv [.c (.bool false)]])
 .ret)
 .skip))
 (.seq (.reg [
 iz 25 .mv [.t 4],
 iz 26 .mv [.t 8],
 iz 27 (.bsl false 1) [.t 26],
 iz 28 (.app false 1 24) [.t 25,.t 27],
 kz 4 .mv [.t 28]])
 (.reg [
 iz 29 .mv [.t 6],
 kz 0 .mv [.t 29]])))))))
def Mc.bundle_rows : MC := (.seq (.reg [
 kz 2 (.newnil 1) [],
 kz 3 .mv [.c (.bool false)]])
 (.seq (.reg [
 kz 4 (.newnil 1) []])
 (.seq (.blk 0 (.loop [5,6,7,8] Mc.bundle_rows_L0))
 (.seq (.reg [
 iz 30 .mv [.t 4],
 kz 2 .mv [.t 30],
 kz 3 .mv [.c (.bool true)]])
 .ret))))
def Ks.q74 : List Nat := [0,2,3,4,5,6]
def Rs.q74 : List RV := [.tmp 2,.tmp 3]
def Dl.q74 : List (List Nat) := [[6]]
def Mc.q74_L0 : MC := (.seq (.seq (.reg [
 iz 11 .mv [.t 5],
 iz 12 .mv [.t 0],
 iz 13 (.len 0) [.t 12],
 iz 14 (.bin .lss) [.t 11,.t 13]])
 (.ite (.t 14)
 .skip
 (.exit 0)))
 (.seq (.blk 1 (.seq (.reg [
 iz 17 .mv [.t 0],
 iz 18 .mv [.t 5],
 iz 19 .istr [.t 17,.t 18],
 iz 20 (.call Fn.q40) [.c (.str [48,49,50,51,52,53,54,55,56,57,97,98,99,100,101,102]),.t 19],
 kz 6 .mv [.t 20]])
 (.seq (.seq (.reg [
 iz 21 .mv [.t 6],
 iz 22 (.bin .lss) [.t 21,.c (.int .i64 0)]])
 (.ite (.t 22)
 (.seq (.reg [
 kz 2 .mv [.c (.str [])],
 kz 3 .mv [.c (.int .i64 4)]])
 .ret)
 .skip))
 (.reg [
 iz 23 .mv [.t 4],
 iz 24 .mv [.t 5],
 iz 25 (.bin .quo) [.t 24,.c (.int .i64 2)],
 iz 26 .mv [.t 4],
 iz 27 .mv [.t 5],
 iz 28 (.bin .quo) [.t 27,.c (.int .i64 2)],
 iz 29 (.iadr 1) [.t 26,.t 28],
 iz 30 (.ld 1 false) [.t 29],
 iz 31 (.bin .shl) [.t 30,.c (.int .u64 4)],
 iz 32 .mv [.t 6],
 iz 33 (.conv .u8) [.t 32],
 iz 34 (.bin .or) [.t 31,.t 33],
 iz 35 (.iadr 1) [.t 23,.t 25],
 nz (.st 1) [.t 35,.t 34]]))))
 (.reg [
 iz 15 .mv [.t 5],
 iz 16 (.bin .add) [.t 15,.c (.int .i64 1)],
 kz 5 .mv [.t 16]])))
def Mc.q74 : MC := (.seq (.reg [
 kz 2 .mv [.c (.str [])],
 kz 3 .mv [.c (.int .i64 0)]])
 (.seq (.seq (.reg [
 iz 7 .mv [.t 0],
 iz 8 (.len 0) [.t 7],
 iz 9 (.bin .neq) [.t 8,.c (.int .i64 64)]])
 (.ite (.t 9)
 (.seq (.reg [
 kz 2 .mv [.c (.str [])],
 kz 3 .mv [.c (.int .i64 4)]])
 .ret)
 .skip))
 (.seq (.reg [
 iz 10 (.mksl [.int .u8 0] 1) [.c (.int .i64 32),.c (.int .i64 32)],
 kz 4 .mv [.t 10]])
 (.seq (.seq (.reg [
 kz 5 .mv [.c (.int .i64 0)]])
 (.blk 0 (.loop [6] Mc.q74_L0)))
 (.seq (.reg [
 iz 36 .mv [.t 4],
 iz 37 .b2s [.t 36],
 kz 2 .mv [.t 37],
 kz 3 .mv [.c (.int .i64 0)]])
 .ret)))))
def Ks.tree_Path : List Nat := [0,2,3]
def Rs.tree_Path : List RV := [.tmp 2]
def Dl.tree_Path : List (List Nat) := []
def Mc.tree_Path : MC := (.seq (.reg [
 kz 2 .mv [.c (.int .i64 0)]])
 (.seq (.reg [
 iz 4 .mv [.t 0],
 iz 5 (.call Fn.q70) [.t 4,.c (.str [47])],
 kz 3 .mv [.t 5]])
 (.seq (.seq (.reg [
 iz 6 .mv [.t 0],
 iz 7 (.len 0) [.t 6],
 iz 8 (.bin .gtr) [.t 7,.c (.int .i64 128)],
 iz 9 .mv [.t 8],
 ⟨some (9,false),some 10,false,.mv,[.t 3]⟩,
 ⟨some (9,false),some 11,false,.len 1,[.t 10]⟩,
 ⟨some (9,false),some 12,false,.bin .gtr,[.t 11,.c (.int .i64 8)]⟩,
 iz 13 .pick [.t 9,.c (.bool true),.t 12],
 iz 14 .mv [.t 13],
 ⟨some (14,false),some 15,false,.mv,[.t 3]⟩,
 ⟨some (14,false),some 16,false,.call Fn.q10,[.t 15,.c (.fn Fn.tree_Path_1 [])]⟩,
 iz 17 .pick [.t 14,.c (.bool true),.t 16]])
 (.ite (.t 17)
 (.seq (.reg [
 kz 2 .mv [.c (.int .i64 2)]])
 .ret)
 .skip))
 (.seq (.reg [
 kz 2 .mv [.c (.int .i64 0)]])
 .ret))))
def Ks.bundle_file : List Nat := [0,2,3,4,6]
def Rs.bundle_file : List RV := [.tmp 2]
def Dl.bundle_file : List (List Nat) := []
def Mc.bundle_file : MC := (.seq (.reg [
 kz 2 .mv [.c (.bool false)]])
 (.seq (.seq (.reg [
 iz 7 .mv [.t 0],
 iz 8 (.len 1) [.t 7],
 iz 9 (.bin .neq) [.t 8,.c (.int .i64 4)],
 iz 10 .mv [.t 9],
 ⟨some (10,false),some 11,false,.mv,[.t 0]⟩,
 ⟨some (10,false),some 12,false,.iadr 1,[.t 11,.c (.int .i64 1)]⟩,
 ⟨some (10,false),some 13,false,.ld 1 false,[.t 12]⟩,
 ⟨some (10,false),some 14,false,.call Fn.tree_Path,[.t 13]⟩,
 ⟨some (10,false),some 15,false,.bin .neq,[.t 14,.c (.int .i64 0)]⟩,
 iz 16 .pick [.t 10,.c (.bool true),.t 15]])
 (.ite (.t 16)
 (.seq (.reg [
 kz 2 .mv [.c (.bool false)]])
 .ret)
 .skip))
 (.seq (.reg [
 iz 18 .mv [.t 0],
 iz 19 (.iadr 1) [.t 18,.c (.int .i64 2)],
 iz 20 (.ld 1 false) [.t 19],
 iz 21 (.call Fn.q77) [.t 20],
 iz 17 .mv [.t 21],
 iz 22 (.ext 0) [.t 17],
 iz 23 (.ext 1) [.t 17],
 kz 3 .mv [.t 22],
 kz 4 .mv [.t 23]])
 (.seq (.reg [
 iz 25 .mv [.t 0],
 iz 26 (.iadr 1) [.t 25,.c (.int .i64 3)],
 iz 27 (.ld 1 false) [.t 26],
 iz 28 (.call Fn.q74) [.t 27],
 iz 24 .mv [.t 28],
 iz 29 (.ext 0) [.t 24],
 iz 30 (.ext 1) [.t 24],
 iz 5 .mv [.t 29],
 kz 6 .mv [.t 30]])
 (.seq (.rgd [
 iz 31 .mv [.t 4],
 iz 32 (.isnili false) [.t 31],
 iz 33 .mv [.t 32],
 ⟨some (33,true),some 34,false,.mv,[.t 3]⟩,
 ⟨some (33,true),some 35,false,.call Fn.q75,[.t 34]⟩,
 ⟨some (33,true),some 36,false,.mv,[.t 0]⟩,
 ⟨some (33,true),some 37,false,.iadr 1,[.t 36,.c (.int .i64 2)]⟩,
 ⟨some (33,true),some 38,false,.ld 1 false,[.t 37]⟩,
 ⟨some (33,true),some 39,false,.bin .eql,[.t 35,.t 38]⟩,
 iz 40 .pick [.t 33,.t 39,.c (.bool false)],
 iz 41 .mv [.t 40],
 ⟨some (41,true),some 42,false,.mv,[.t 3]⟩,
 ⟨some (41,true),some 43,false,.bin .geq,[.t 42,.c (.int .i64 0)]⟩,
 iz 44 .pick [.t 41,.t 43,.c (.bool false)],
 iz 45 .mv [.t 44],
 ⟨some (45,true),some 46,false,.mv,[.t 3]⟩,
 ⟨some (45,true),some 47,false,.bin .leq,[.t 46,.c (.int .i64 65536)]⟩,
 iz 48 .pick [.t 45,.t 47,.c (.bool false)],
 iz 49 .mv [.t 48],
 ⟨some (49,true),some 50,false,.mv,[.t 6]⟩,
 ⟨some (49,true),some 51,false,.bin .eql,[.t 50,.c (.int .i64 0)]⟩,
 iz 52 .pick [.t 49,.t 51,.c (.bool false)],
 kz 2 .mv [.t 52]])
 .ret)))))
def Ks.q58 : List Nat := [0,2,3,5,14,15,16]
def Rs.q58 : List RV := [.tmp 2]
def Dl.q58 : List (List Nat) := [[5]]
def Mc.q58_L0 : MC := (.seq (.reg [
 iz 17 (.bin .lss) [.t 16,.t 15]])
 (.seq (.ite (.t 17)
 .skip
 (.exit 0))
 (.seq (.blk 1 (.seq (.reg [
 iz 18 (.iadr 1) [.t 14,.t 16],
 iz 19 (.ld 1 false) [.t 18],
 kz 5 .mv [.t 19]])
 (.seq (.reg [
 iz 20 .mv [.t 5],
 iz 21 (.call Fn.q60) [.t 20],
 iz 22 (.un .not) [.t 21]])
 (.ite (.t 22)
 (.seq (.reg [
 kz 2 .mv [.c (.int .i64 2)]])
 .ret)
 .skip))))
 (.reg [
 iz 23 (.bin .add) [.t 16,.c (.int .i64 1)],
 kz 16 .mv [.t 23]]))))
def Mc.q58 : MC := (.seq (.reg [
 kz 2 .mv [.c (.int .i64 0)]])
 (.seq (.seq (.reg [
 iz 6 .mv [.t 0],
 iz 7 (.len 0) [.t 6],
 iz 8 (.bin .gtr) [.t 7,.c (.int .i64 128)]])
 (.ite (.t 8)
 (.seq (.reg [
 kz 2 .mv [.c (.int .i64 2)]])
 .ret)
 .skip))
 (.seq (.reg [
 iz 9 .mv [.t 0],
 iz 10 (.call Fn.q50) [.t 9,.c (.int .u8 47)],
 kz 3 .mv [.t 10]])
 (.seq (.seq (.reg [
 iz 11 .mv [.t 3],
 iz 12 (.len 1) [.t 11],
 iz 13 (.bin .gtr) [.t 12,.c (.int .i64 8)]])
 (.ite (.t 13)
 (.seq (.reg [
 kz 2 .mv [.c (.int .i64 2)]])
 .ret)
 .skip))
 (.seq (.seq (.reg [
 kz 14 .mv [.t 3],
 kz 15 (.len 1) [.t 14],
 kz 16 .mv [.c (.int .i64 0)]])
 (.blk 0 (.loop [5] Mc.q58_L0)))
 (.seq (.reg [
 kz 2 .mv [.c (.int .i64 0)]])
 .ret))))))
def Ks.q47 : List Nat := [0,2,3,4,5,6,7]
def Rs.q47 : List RV := [.tmp 2,.tmp 3]
def Dl.q47 : List (List Nat) := [[6,7]]
def Mc.q47_L0 : MC := (.seq (.seq (.reg [
 iz 11 .mv [.t 5],
 iz 12 .mv [.t 0],
 iz 13 (.len 0) [.t 12],
 iz 14 (.bin .lss) [.t 11,.t 13]])
 (.ite (.t 14)
 .skip
 (.exit 0)))
 (.seq (.blk 1 (.seq (.rgd [
 iz 17 .mv [.t 0],
 iz 18 .mv [.t 5],
 iz 19 .istr [.t 17,.t 18],
 iz 20 (.call Fn.q51) [.t 19],
 iz 21 .mv [.t 0],
 iz 22 .mv [.t 5],
 iz 23 (.bin .add) [.t 22,.c (.int .i64 1)],
 iz 24 .istr [.t 21,.t 23],
 iz 25 (.call Fn.q51) [.t 24],
 kz 6 .mv [.t 20],
 kz 7 .mv [.t 25]])
 (.seq (.seq (.reg [
 iz 26 .mv [.t 6],
 iz 27 (.bin .lss) [.t 26,.c (.int .i64 0)],
 iz 28 .mv [.t 27],
 ⟨some (28,false),some 29,false,.mv,[.t 7]⟩,
 ⟨some (28,false),some 30,false,.bin .lss,[.t 29,.c (.int .i64 0)]⟩,
 iz 31 .pick [.t 28,.c (.bool true),.t 30]])
 (.ite (.t 31)
 (.seq (.reg [
 kz 2 .mv [.c (.str [])],
 kz 3 .mv [.c (.int .i64 4)]])
 .ret)
 .skip))
 (.reg [
 iz 32 .mv [.t 4],
 iz 33 .mv [.t 6],
 iz 34 (.bin .mul) [.c (.int .i64 16),.t 33],
 iz 35 .mv [.t 7],
 iz 36 (.bin .add) [.t 34,.t 35],
 iz 37 (.conv .u8) [.t 36],
 iz 38 (.bsl false 1) [.t 37],
 iz 39 (.app false 1 1) [.t 32,.t 38],
 kz 4 .mv [.t 39]]))))
 (.reg [
 iz 15 .mv [.t 5],
 iz 16 (.bin .add) [.t 15,.c (.int .i64 2)],
 kz 5 .mv [.t 16]])))
def Mc.q47 : MC := (.seq (.reg [
 kz 2 .mv [.c (.str [])],
 kz 3 .mv [.c (.int .i64 0)]])
 (.seq (.seq (.reg [
 iz 8 .mv [.t 0],
 iz 9 (.len 0) [.t 8],
 iz 10 (.bin .neq) [.t 9,.c (.int .i64 64)]])
 (.ite (.t 10)
 (.seq (.reg [
 kz 2 .mv [.c (.str [])],
 kz 3 .mv [.c (.int .i64 4)]])
 .ret)
 .skip))
 (.seq (.reg [
 kz 4 (.newnil 1) []])
 (.seq (.seq (.reg [
 kz 5 .mv [.c (.int .i64 0)]])
 (.blk 0 (.loop [6,7] Mc.q47_L0)))
 (.seq (.reg [
 iz 40 .mv [.t 4],
 iz 41 .b2s [.t 40],
 kz 2 .mv [.t 41],
 kz 3 .mv [.c (.int .i64 0)]])
 .ret)))))
def Ks.q9 : List Nat := [0,1,4]
def Rs.q9 : List RV := [.tmp 4]
def Dl.q9 : List (List Nat) := []
def Mc.q9 : MC := (.seq (.reg [
 kz 4 .mv [.c (.bool false)]])
 (.seq (.reg [
 iz 5 .mv [.t 0],
 iz 6 .mv [.t 1],
 iz 7 (.call Fn.q11) [.t 5,.t 6],
 iz 8 (.bin .geq) [.t 7,.c (.int .i64 0)],
 kz 4 .mv [.t 8]])
 .ret))
def Ks.q76 : List Nat := [0,1,2,3]
def Rs.q76 : List RV := [.tmp 3]
def Dl.q76 : List (List Nat) := []
def Mc.q76 : MC := (.seq (.reg [
 kz 2 .box [.t 0],
 kz 3 .mv [.c (.bool false)]])
 (.seq (.reg [
 iz 4 (.fadr 0) [.t 1],
 iz 5 (.ld 1 false) [.t 4],
 iz 6 (.fadr 0) [.t 2],
 iz 7 (.ld 1 false) [.t 6],
 iz 8 (.call Fn.tree_below) [.t 5,.t 7],
 kz 3 .mv [.t 8]])
 .ret))
def Ks.tree_below : List Nat := [0,1,4]
def Rs.tree_below : List RV := [.tmp 4]
def Dl.tree_below : List (List Nat) := []
def Mc.tree_below : MC := (.seq (.reg [
 kz 4 .mv [.c (.bool false)]])
 (.seq (.reg [
 iz 5 .mv [.t 0],
 iz 6 .mv [.t 1],
 iz 7 (.bin .add) [.t 6,.c (.str [47])],
 iz 8 (.call Fn.q41) [.t 5,.t 7],
 kz 4 .mv [.t 8]])
 .ret))
def Ks.q49 : List Nat := [0,1,4]
def Rs.q49 : List RV := [.tmp 4]
def Dl.q49 : List (List Nat) := []
def Mc.q49 : MC := (.seq (.reg [
 kz 4 .mv [.c (.bool false)]])
 (.seq (.reg [
 iz 5 .mv [.t 0],
 iz 6 (.len 0) [.t 5],
 iz 7 .mv [.t 1],
 iz 8 (.len 0) [.t 7],
 iz 9 (.bin .gtr) [.t 6,.t 8],
 iz 10 .mv [.t 9],
 ⟨some (10,true),some 11,false,.mv,[.t 0]⟩,
 ⟨some (10,true),some 12,false,.mv,[.t 1]⟩,
 ⟨some (10,true),some 13,false,.len 0,[.t 12]⟩,
 ⟨some (10,true),some 14,false,.slc none false true false,[.t 11,.t 13]⟩,
 ⟨some (10,true),some 15,false,.mv,[.t 1]⟩,
 ⟨some (10,true),some 16,false,.bin .eql,[.t 14,.t 15]⟩,
 iz 17 .pick [.t 10,.t 16,.c (.bool false)],
 iz 18 .mv [.t 17],
 ⟨some (18,true),some 19,false,.mv,[.t 0]⟩,
 ⟨some (18,true),some 20,false,.mv,[.t 1]⟩,
 ⟨some (18,true),some 21,false,.len 0,[.t 20]⟩,
 ⟨some (18,true),some 22,false,.istr,[.t 19,.t 21]⟩,
 ⟨some (18,true),some 23,false,.bin .eql,[.t 22,.c (.int .u8 47)]⟩,
 iz 24 .pick [.t 18,.t 23,.c (.bool false)],
 kz 4 .mv [.t 24]])
 .ret))
def Ks.q38 : List Nat := [0,2]
def Rs.q38 : List RV := [.tmp 2]
def Dl.q38 : List (List Nat) := []
def Mc.q38 : MC := (.seq (.reg [
 kz 2 .mv [.c (.str [])]])
 (.seq (.seq (.reg [
 iz 3 .mv [.t 0],
 iz 4 (.bin .lss) [.t 3,.c (.int .i64 10)]])
 (.ite (.t 4)
 (.seq (.reg [
 iz 5 .mv [.t 0],
 iz 6 (.bin .add) [.c (.int .i64 48),.t 5],
 iz 7 (.conv .u8) [.t 6],
 iz 8 (.bsl false 1) [.t 7],
 iz 9 .b2s [.t 8],
 kz 2 .mv [.t 9]])
 .ret)
 .skip))
 (.seq (.rgd [
 iz 10 .mv [.t 0],
 iz 11 (.bin .quo) [.t 10,.c (.int .i64 10)],
 iz 12 (.call Fn.q38) [.t 11],
 iz 13 .mv [.t 0],
 iz 14 (.bin .rem) [.t 13,.c (.int .i64 10)],
 iz 15 (.bin .add) [.c (.int .i64 48),.t 14],
 iz 16 (.conv .u8) [.t 15],
 iz 17 (.bsl false 1) [.t 16],
 iz 18 .b2s [.t 17],
 iz 19 (.bin .add) [.t 12,.t 18],
 kz 2 .mv [.t 19]])
 .ret)))
def Ks.q73 : List Nat := [0,2]
def Rs.q73 : List RV := [.tmp 2]
def Dl.q73 : List (List Nat) := []
def Mc.q73 : MC := (.seq (.reg [
 kz 2 .mv [.c (.str [])]])
 (.seq (.reg [
 iz 3 .mv [.t 0],
 iz 4 (.call Fn.q20) [.t 3],
 kz 2 .mv [.t 4]])
 .ret))
def Ks.q60 : List Nat := [0,2,3,4]
def Rs.q60 : List RV := [.tmp 2]
def Dl.q60 : List (List Nat) := [[4]]
def Mc.q60_L0 : MC := (.seq (.seq (.reg [
 iz 23 .mv [.t 3],
 iz 24 .mv [.t 0],
 iz 25 (.len 0) [.t 24],
 iz 26 (.bin .lss) [.t 23,.t 25]])
 (.ite (.t 26)
 .skip
 (.exit 0)))
 (.seq (.blk 1 (.seq (.reg [
 iz 29 .mv [.t 0],
 iz 30 .mv [.t 3],
 iz 31 .istr [.t 29,.t 30],
 kz 4 .mv [.t 31]])
 (.seq (.reg [
 iz 32 .mv [.t 4],
 iz 33 (.bin .lss) [.t 32,.c (.int .u8 97)],
 iz 34 .mv [.t 33],
 ⟨some (34,false),some 35,false,.mv,[.t 4]⟩,
 ⟨some (34,false),some 36,false,.bin .gtr,[.t 35,.c (.int .u8 122)]⟩,
 iz 37 .pick [.t 34,.c (.bool true),.t 36],
 iz 38 .mv [.t 37],
 ⟨some (38,true),some 39,false,.mv,[.t 4]⟩,
 ⟨some (38,true),some 40,false,.bin .lss,[.t 39,.c (.int .u8 48)]⟩,
 ⟨some (38,true),some 41,false,.mv,[.t 40]⟩,
 ⟨some (41,false),some 42,false,.mv,[.t 4]⟩,
 ⟨some (41,false),some 43,false,.bin .gtr,[.t 42,.c (.int .u8 57)]⟩,
 ⟨some (38,true),some 44,false,.pick,[.t 41,.c (.bool true),.t 43]⟩,
 iz 45 .pick [.t 38,.t 44,.c (.bool false)],
 iz 46 .mv [.t 45],
 ⟨some (46,true),some 47,false,.mv,[.t 4]⟩,
 ⟨some (46,true),some 48,false,.bin .neq,[.t 47,.c (.int .u8 46)]⟩,
 iz 49 .pick [.t 46,.t 48,.c (.bool false)],
 iz 50 .mv [.t 49],
 ⟨some (50,true),some 51,false,.mv,[.t 4]⟩,
 ⟨some (50,true),some 52,false,.bin .neq,[.t 51,.c (.int .u8 95)]⟩,
 iz 53 .pick [.t 50,.t 52,.c (.bool false)],
 iz 54 .mv [.t 53],
 ⟨some (54,true),some 55,false,.mv,[.t 4]⟩,
 ⟨some (54,true),some 56,false,.bin .neq,[.t 55,.c (.int .u8 45)]⟩,
 iz 57 .pick [.t 54,.t 56,.c (.bool false)]])
 (.ite (.t 57)
 (.seq (.reg [
 kz 2 .mv [.c (.bool false)]])
 .ret)
 .skip))))
 (.reg [
 iz 27 .mv [.t 3],
 iz 28 (.bin .add) [.t 27,.c (.int .i64 1)],
 kz 3 .mv [.t 28]])))
def Mc.q60 : MC := (.seq (.reg [
 kz 2 .mv [.c (.bool false)]])
 (.seq (.seq (.reg [
 iz 5 .mv [.t 0],
 iz 6 (.len 0) [.t 5],
 iz 7 (.bin .lss) [.t 6,.c (.int .i64 1)],
 iz 8 .mv [.t 7],
 ⟨some (8,false),some 9,false,.mv,[.t 0]⟩,
 ⟨some (8,false),some 10,false,.len 0,[.t 9]⟩,
 ⟨some (8,false),some 11,false,.bin .gtr,[.t 10,.c (.int .i64 32)]⟩,
 iz 12 .pick [.t 8,.c (.bool true),.t 11],
 iz 13 .mv [.t 12],
 ⟨some (13,false),some 14,false,.mv,[.t 0]⟩,
 ⟨some (13,false),some 15,false,.istr,[.t 14,.c (.int .i64 0)]⟩,
 ⟨some (13,false),some 16,false,.bin .eql,[.t 15,.c (.int .u8 46)]⟩,
 iz 17 .pick [.t 13,.c (.bool true),.t 16],
 iz 18 .mv [.t 17],
 ⟨some (18,false),some 19,false,.mv,[.t 0]⟩,
 ⟨some (18,false),some 20,false,.istr,[.t 19,.c (.int .i64 0)]⟩,
 ⟨some (18,false),some 21,false,.bin .eql,[.t 20,.c (.int .u8 45)]⟩,
 iz 22 .pick [.t 18,.c (.bool true),.t 21]])
 (.ite (.t 22)
 (.seq (.reg [
 kz 2 .mv [.c (.bool false)]])
 .ret)
 .skip))
 (.seq (.seq (.reg [
 kz 3 .mv [.c (.int .i64 0)]])
 (.blk 0 (.loop [4] Mc.q60_L0)))
 (.seq (.reg [
 kz 2 .mv [.c (.bool true)]])
 .ret))))
def Ks.q14 : List Nat := [0,1,4]
def Rs.q14 : List RV := [.tmp 4]
def Dl.q14 : List (List Nat) := []
def Mc.q14 : MC := (.seq (.reg [
 kz 4 .mv [.c (.bool false)]])
 (.seq (.reg [
 iz 5 .mv [.t 0],
 iz 6 .mv [.t 1],
 iz 7 (.call Fn.q16) [.t 5,.t 6],
 iz 8 (.bin .geq) [.t 7,.c (.int .i64 0)],
 kz 4 .mv [.t 8]])
 .ret))
def Ks.q10 : List Nat := [0,1,4]
def Rs.q10 : List RV := [.tmp 4]
def Dl.q10 : List (List Nat) := []
def Mc.q10 : MC := (.seq (.reg [
 kz 4 .mv [.c (.bool false)]])
 (.seq (.reg [
 iz 5 .mv [.t 0],
 iz 6 .mv [.t 1],
 iz 7 (.call Fn.q13) [.t 5,.t 6],
 iz 8 (.bin .geq) [.t 7,.c (.int .i64 0)],
 kz 4 .mv [.t 8]])
 .ret))
def Ks.tree_Path_1 : List Nat := [0,2]
def Rs.tree_Path_1 : List RV := [.tmp 2]
def Dl.tree_Path_1 : List (List Nat) := []
def Mc.tree_Path_1 : MC := (.seq (.reg [
 kz 2 .mv [.c (.bool false)]])
 (.seq (.reg [
 iz 3 .mv [.t 0],
 iz 4 (.call Fn.tree_part) [.t 3],
 iz 5 (.un .not) [.t 4],
 kz 2 .mv [.t 5]])
 .ret))
def Ks.tree_part : List Nat := [0,2]
def Rs.tree_part : List RV := [.tmp 2]
def Dl.tree_part : List (List Nat) := []
def Mc.tree_part : MC := (.seq (.reg [
 kz 2 .mv [.c (.bool false)]])
 (.seq (.seq (.reg [
 iz 3 .mv [.t 0],
 iz 4 (.bin .eql) [.t 3,.c (.str [])],
 iz 5 .mv [.t 4],
 ⟨some (5,false),some 6,false,.mv,[.t 0]⟩,
 ⟨some (5,false),some 7,false,.len 0,[.t 6]⟩,
 ⟨some (5,false),some 8,false,.bin .gtr,[.t 7,.c (.int .i64 32)]⟩,
 iz 9 .pick [.t 5,.c (.bool true),.t 8],
 iz 10 .mv [.t 9],
 ⟨some (10,false),some 11,false,.mv,[.t 0]⟩,
 ⟨some (10,false),some 12,false,.istr,[.t 11,.c (.int .i64 0)]⟩,
 ⟨some (10,false),some 13,false,.bin .eql,[.t 12,.c (.int .u8 46)]⟩,
 iz 14 .pick [.t 10,.c (.bool true),.t 13],
 iz 15 .mv [.t 14],
 ⟨some (15,false),some 16,false,.mv,[.t 0]⟩,
 ⟨some (15,false),some 17,false,.istr,[.t 16,.c (.int .i64 0)]⟩,
 ⟨some (15,false),some 18,false,.bin .eql,[.t 17,.c (.int .u8 45)]⟩,
 iz 19 .pick [.t 15,.c (.bool true),.t 18]])
 (.ite (.t 19)
 (.seq (.reg [
 kz 2 .mv [.c (.bool false)]])
 .ret)
 .skip))
 (.seq (.reg [
 iz 20 .mv [.t 0],
 iz 21 (.call Fn.q31) [.t 20,.c (.fn Fn.tree_part_1 [])],
 iz 22 (.un .not) [.t 21],
 kz 2 .mv [.t 22]])
 .ret)))
def Ks.q50 : List Nat := [0,1,4,5,6,7]
def Rs.q50 : List RV := [.tmp 4]
def Dl.q50 : List (List Nat) := [[]]
def Mc.q50_L0 : MC := (.seq (.seq (.reg [
 iz 8 .mv [.t 7],
 iz 9 .mv [.t 0],
 iz 10 (.len 0) [.t 9],
 iz 11 (.bin .lss) [.t 8,.t 10]])
 (.ite (.t 11)
 .skip
 (.exit 0)))
 (.seq (.blk 1 (.seq (.reg [
 iz 14 .mv [.t 0],
 iz 15 .mv [.t 7],
 iz 16 .istr [.t 14,.t 15],
 iz 17 .mv [.t 1],
 iz 18 (.bin .eql) [.t 16,.t 17]])
 (.ite (.t 18)
 (.seq (.reg [
 iz 19 .mv [.t 5],
 iz 20 .mv [.t 0],
 iz 21 .mv [.t 6],
 iz 22 .mv [.t 7],
 iz 23 (.slc none true true false) [.t 20,.t 21,.t 22],
 iz 24 (.bsl false 1) [.t 23],
 iz 25 (.app false 1 16) [.t 19,.t 24],
 kz 5 .mv [.t 25]])
 (.reg [
 iz 26 .mv [.t 7],
 iz 27 (.bin .add) [.t 26,.c (.int .i64 1)],
 kz 6 .mv [.t 27]]))
 .skip)))
 (.reg [
 iz 12 .mv [.t 7],
 iz 13 (.bin .add) [.t 12,.c (.int .i64 1)],
 kz 7 .mv [.t 13]])))
def Mc.q50 : MC := (.seq (.reg [
 kz 4 (.newnil 1) []])
 (.seq (.reg [
 kz 5 (.newnil 1) []])
 (.seq (.reg [
 kz 6 .mv [.c (.int .i64 0)]])
 (.seq (.seq (.reg [
 kz 7 .mv [.c (.int .i64 0)]])
 (.blk 0 (.loop [] Mc.q50_L0)))
 (.seq (.reg [
 iz 28 .mv [.t 5],
 iz 29 .mv [.t 0],
 iz 30 .mv [.t 6],
 iz 31 (.slc none true false false) [.t 29,.t 30],
 iz 32 (.bsl false 1) [.t 31],
 iz 33 (.app false 1 16) [.t 28,.t 32],
 kz 4 .mv [.t 33]])
 .ret)))))
def Ks.q51 : List Nat := [0,2]
def Rs.q51 : List RV := [.tmp 2]
def Dl.q51 : List (List Nat) := []
def Mc.q51 : MC := (.seq (.reg [
 kz 2 .mv [.c (.int .i64 0)]])
 (.seq (.seq (.reg [
 iz 3 .mv [.t 0],
 iz 4 (.bin .geq) [.t 3,.c (.int .u8 48)],
 iz 5 .mv [.t 4],
 ⟨some (5,true),some 6,false,.mv,[.t 0]⟩,
 ⟨some (5,true),some 7,false,.bin .leq,[.t 6,.c (.int .u8 57)]⟩,
 iz 8 .pick [.t 5,.t 7,.c (.bool false)]])
 (.ite (.t 8)
 (.seq (.reg [
 iz 9 .mv [.t 0],
 iz 10 (.bin .sub) [.t 9,.c (.int .u8 48)],
 iz 11 (.conv .i64) [.t 10],
 kz 2 .mv [.t 11]])
 .ret)
 .skip))
 (.seq (.seq (.reg [
 iz 12 .mv [.t 0],
 iz 13 (.bin .geq) [.t 12,.c (.int .u8 97)],
 iz 14 .mv [.t 13],
 ⟨some (14,true),some 15,false,.mv,[.t 0]⟩,
 ⟨some (14,true),some 16,false,.bin .leq,[.t 15,.c (.int .u8 102)]⟩,
 iz 17 .pick [.t 14,.t 16,.c (.bool false)]])
 (.ite (.t 17)
 (.seq (.reg [
 iz 18 .mv [.t 0],
 iz 19 (.bin .sub) [.t 18,.c (.int .u8 97)],
 iz 20 (.conv .i64) [.t 19],
 iz 21 (.bin .add) [.t 20,.c (.int .i64 10)],
 kz 2 .mv [.t 21]])
 .ret)
 .skip))
 (.seq (.reg [
 kz 2 .mv [.c (.int .i64 (-1))]])
 .ret))))
def Ks.q11 : List Nat := [0,1,4,5,7,8]
def Rs.q11 : List RV := [.tmp 4]
def Dl.q11 : List (List Nat) := [[5]]
def Mc.q11_L0 : MC := (.seq (.reg [
 iz 9 (.bin .lss) [.t 8,.t 7]])
 (.seq (.ite (.t 9)
 .skip
 (.exit 0))
 (.seq (.blk 1 (.seq (.reg [
 iz 10 .mv [.t 8],
 kz 5 .mv [.t 10]])
 (.seq (.reg [
 iz 11 .mv [.t 1],
 iz 12 .mv [.t 0],
 iz 13 .mv [.t 5],
 iz 14 (.iadr 2) [.t 12,.t 13],
 iz 15 (.ld 2 true) [.t 14],
 iz 16 .callv [.t 11,.t 15]])
 (.ite (.t 16)
 (.seq (.reg [
 iz 17 .mv [.t 5],
 kz 4 .mv [.t 17]])
 .ret)
 .skip))))
 (.reg [
 iz 18 (.bin .add) [.t 8,.c (.int .i64 1)],
 kz 8 .mv [.t 18]]))))
def Mc.q11 : MC := (.seq (.reg [
 kz 4 .mv [.c (.int .i64 0)]])
 (.seq (.seq (.reg [
 iz 6 .mv [.t 0],
 kz 7 (.len 1) [.t 6],
 kz 8 .mv [.c (.int .i64 0)]])
 (.blk 0 (.loop [5] Mc.q11_L0)))
 (.seq (.reg [
 kz 4 .mv [.c (.int .i64 (-1))]])
 .ret)))
def Ks.q41 : List Nat := [0,1,4]
def Rs.q41 : List RV := [.tmp 4]
def Dl.q41 : List (List Nat) := []
def Mc.q41 : MC := (.seq (.reg [
 kz 4 .mv [.c (.bool false)]])
 (.seq (.reg [
 iz 5 .mv [.t 0],
 iz 6 .mv [.t 1],
 iz 7 (.call Fn.q15) [.t 5,.t 6],
 kz 4 .mv [.t 7]])
 .ret))
def Ks.q16 : List Nat := [0,1,4,5,7,8]
def Rs.q16 : List RV := [.tmp 4]
def Dl.q16 : List (List Nat) := [[5]]
def Mc.q16_L0 : MC := (.seq (.reg [
 iz 9 (.bin .lss) [.t 8,.t 7]])
 (.seq (.ite (.t 9)
 .skip
 (.exit 0))
 (.seq (.blk 1 (.seq (.reg [
 iz 10 .mv [.t 8],
 kz 5 .mv [.t 10]])
 (.seq (.reg [
 iz 11 .mv [.t 1],
 iz 12 .mv [.t 0],
 iz 13 .mv [.t 5],
 iz 14 (.iadr 1) [.t 12,.t 13],
 iz 15 (.ld 1 false) [.t 14],
 iz 16 (.bin .eql) [.t 11,.t 15]])
 (.ite (.t 16)
 (.seq (.reg [
 iz 17 .mv [.t 5],
 kz 4 .mv [.t 17]])
 .ret)
 .skip))))
 (.reg [
 iz 18 (.bin .add) [.t 8,.c (.int .i64 1)],
 kz 8 .mv [.t 18]]))))
def Mc.q16 : MC := (.seq (.reg [
 kz 4 .mv [.c (.int .i64 0)]])
 (.seq (.seq (.reg [
 iz 6 .mv [.t 0],
 kz 7 (.len 1) [.t 6],
 kz 8 .mv [.c (.int .i64 0)]])
 (.blk 0 (.loop [5] Mc.q16_L0)))
 (.seq (.reg [
 kz 4 .mv [.c (.int .i64 (-1))]])
 .ret)))
def Ks.q13 : List Nat := [0,1,4,5,7,8]
def Rs.q13 : List RV := [.tmp 4]
def Dl.q13 : List (List Nat) := [[5]]
def Mc.q13_L0 : MC := (.seq (.reg [
 iz 9 (.bin .lss) [.t 8,.t 7]])
 (.seq (.ite (.t 9)
 .skip
 (.exit 0))
 (.seq (.blk 1 (.seq (.reg [
 iz 10 .mv [.t 8],
 kz 5 .mv [.t 10]])
 (.seq (.reg [
 iz 11 .mv [.t 1],
 iz 12 .mv [.t 0],
 iz 13 .mv [.t 5],
 iz 14 (.iadr 1) [.t 12,.t 13],
 iz 15 (.ld 1 false) [.t 14],
 iz 16 .callv [.t 11,.t 15]])
 (.ite (.t 16)
 (.seq (.reg [
 iz 17 .mv [.t 5],
 kz 4 .mv [.t 17]])
 .ret)
 .skip))))
 (.reg [
 iz 18 (.bin .add) [.t 8,.c (.int .i64 1)],
 kz 8 .mv [.t 18]]))))
def Mc.q13 : MC := (.seq (.reg [
 kz 4 .mv [.c (.int .i64 0)]])
 (.seq (.seq (.reg [
 iz 6 .mv [.t 0],
 kz 7 (.len 1) [.t 6],
 kz 8 .mv [.c (.int .i64 0)]])
 (.blk 0 (.loop [5] Mc.q13_L0)))
 (.seq (.reg [
 kz 4 .mv [.c (.int .i64 (-1))]])
 .ret)))
def Ks.q31 : List Nat := [0,1,4]
def Rs.q31 : List RV := [.tmp 4]
def Dl.q31 : List (List Nat) := []
def Mc.q31 : MC := (.seq (.reg [
 kz 4 .mv [.c (.bool false)]])
 (.seq (.reg [
 iz 5 .mv [.t 0],
 iz 6 .mv [.t 1],
 iz 7 (.call Fn.q42) [.t 5,.t 6],
 iz 8 (.bin .geq) [.t 7,.c (.int .i64 0)],
 kz 4 .mv [.t 8]])
 .ret))
def Ks.tree_part_1 : List Nat := [0,2]
def Rs.tree_part_1 : List RV := [.tmp 2]
def Dl.tree_part_1 : List (List Nat) := []
def Mc.tree_part_1 : MC := (.seq (.reg [
 kz 2 .mv [.c (.bool false)]])
 (.seq (.reg [
 iz 3 .mv [.t 0],
 iz 4 (.bin .geq) [.t 3,.c (.int .i32 97)],
 iz 5 .mv [.t 4],
 ⟨some (5,true),some 6,false,.mv,[.t 0]⟩,
 ⟨some (5,true),some 7,false,.bin .leq,[.t 6,.c (.int .i32 122)]⟩,
 iz 8 .pick [.t 5,.t 7,.c (.bool false)],
 iz 9 .mv [.t 8],
 ⟨some (9,false),some 10,false,.mv,[.t 0]⟩,
 ⟨some (9,false),some 11,false,.bin .geq,[.t 10,.c (.int .i32 48)]⟩,
 ⟨some (9,false),some 12,false,.mv,[.t 11]⟩,
 ⟨some (12,true),some 13,false,.mv,[.t 0]⟩,
 ⟨some (12,true),some 14,false,.bin .leq,[.t 13,.c (.int .i32 57)]⟩,
 ⟨some (9,false),some 15,false,.pick,[.t 12,.t 14,.c (.bool false)]⟩,
 iz 16 .pick [.t 9,.c (.bool true),.t 15],
 iz 17 .mv [.t 16],
 ⟨some (17,false),some 18,false,.mv,[.t 0]⟩,
 ⟨some (17,false),some 19,false,.bin .eql,[.t 18,.c (.int .i32 46)]⟩,
 iz 20 .pick [.t 17,.c (.bool true),.t 19],
 iz 21 .mv [.t 20],
 ⟨some (21,false),some 22,false,.mv,[.t 0]⟩,
 ⟨some (21,false),some 23,false,.bin .eql,[.t 22,.c (.int .i32 95)]⟩,
 iz 24 .pick [.t 21,.c (.bool true),.t 23],
 iz 25 .mv [.t 24],
 ⟨some (25,false),some 26,false,.mv,[.t 0]⟩,
 ⟨some (25,false),some 27,false,.bin .eql,[.t 26,.c (.int .i32 45)]⟩,
 iz 28 .pick [.t 25,.c (.bool true),.t 27],
 iz 29 (.un .not) [.t 28],
 kz 2 .mv [.t 29]])
 .ret))
def Ks.q42 : List Nat := [0,1,4]
def Rs.q42 : List RV := [.tmp 4]
def Dl.q42 : List (List Nat) := []
def Mc.q42 : MC := (.seq (.reg [
 kz 4 .mv [.c (.int .i64 0)]])
 (.seq (.reg [
 iz 5 .mv [.t 0],
 iz 6 .mv [.t 1],
 iz 7 (.call Fn.q43) [.t 5,.t 6,.c (.bool true)],
 kz 4 .mv [.t 7]])
 .ret))
def Ks.q43 : List Nat := [0,1,2,6,7,8,10,11]
def Rs.q43 : List RV := [.tmp 6]
def Dl.q43 : List (List Nat) := [[7,8,11]]
def Mc.q43_L0 : MC := (.seq (.reg [
 kz 11 .nxt [.t 10],
 iz 12 (.ext 0) [.t 11]])
 (.seq (.ite (.t 12)
 .skip
 (.exit 0))
 (.blk 1 (.seq (.reg [
 iz 13 (.ext 1) [.t 11],
 iz 14 (.ext 2) [.t 11],
 kz 7 .mv [.t 13],
 kz 8 .mv [.t 14]])
 (.seq (.reg [
 iz 15 .mv [.t 1],
 iz 16 .mv [.t 8],
 iz 17 .callv [.t 15,.t 16],
 iz 18 .mv [.t 2],
 iz 19 (.eqB false) [.t 17,.t 18]])
 (.ite (.t 19)
 (.seq (.reg [
 iz 20 .mv [.t 7],
 kz 6 .mv [.t 20]])
 .ret)
 .skip))))))
def Mc.q43 : MC := (.seq (.reg [
 kz 6 .mv [.c (.int .i64 0)]])
 (.seq (.seq (.reg [
 iz 9 .mv [.t 0],
 kz 10 .rng [.t 9]])
 (.blk 0 (.loop [7,8,11] Mc.q43_L0)))
 (.seq (.reg [
 kz 6 .mv [.c (.int .i64 (-1))]])
 .ret)))
def Ks.digest_Sum : List Nat := [0,2,3]
def Rs.digest_Sum : List RV := [.tmp 2]
def Dl.digest_Sum : List (List Nat) := []
def Mc.digest_Sum : MC := (.seq (.reg [
 kz 2 .mv [.c (.str [])]])
 (.seq (.reg [
 iz 4 (.call Fn.digest_New) [],
 kz 3 .mv [.t 4]])
 (.seq (.reg [
 iz 5 .mv [.t 3],
 iz 6 .mv [.t 0],
 iz 7 (.bsl false 1) [.t 6],
 iz 8 (.call Fn.q26) [.t 5,.t 7]])
 (.seq (.reg [
 iz 9 .mv [.t 3],
 iz 10 (.call Fn.q32) [.t 9],
 kz 2 .mv [.t 10]])
 .ret))))
def Ks.digest_New : List Nat := [0]
def Rs.digest_New : List RV := [.tmp 0]
def Dl.digest_New : List (List Nat) := []
def Mc.digest_New : MC := (.seq (.reg [
 kz 0 .mv [.c (.nilp)]])
 (.seq (.reg [
 iz 1 (.bld [.int .u64 0,.int .u64 0,.int .u64 0,.int .u64 0,.int .u64 0,.int .u64 0,.int .u64 0,.int .u64 0,.int .u64 0,.int .u64 0,.int .u64 0,.int .u64 0,.int .u64 0,.int .u64 0,.int .u64 0,.int .u64 0,.int .u64 0,.int .u64 0,.int .u64 0,.int .u64 0,.int .u64 0,.int .u64 0,.int .u64 0,.int .u64 0,.int .u64 0,.nils,.int .i64 0,.int .u64 0,.int .u64 0,.int .u64 0,.int .u64 0,.int .u64 0,.int .u64 0,.int .u64 0,.int .u64 0,.int .u64 0,.int .u64 0,.int .u64 0,.int .u64 0,.int .u64 0,.int .u64 0,.int .u64 0,.int .u64 0,.int .u64 0,.int .u64 0,.int .u64 0,.int .u64 0,.int .u64 0,.int .u64 0,.int .u64 0,.int .u64 0,.int .u64 0,.str [],.str []] []) [],
 iz 2 .box [.t 1],
 kz 0 .mv [.t 2]])
 .ret))
def Ks.q26 : List Nat := [0,1,4,6,7,8,9]
def Rs.q26 : List RV := [.tmp 4]
def Dl.q26 : List (List Nat) := [[6],[]]
def Ow.__digest_Sponge__Write : List Nat := [42,49]
def Mc.q26_L1 : MC := (.seq (.seq (.reg [
 iz 31 .mv [.t 0],
 iz 32 .nilck [.t 31],
 iz 33 (.fadr 25) [.t 32],
 iz 34 (.ld 1 false) [.t 33],
 iz 35 (.len 1) [.t 34],
 iz 36 (.bin .geq) [.t 35,.c (.int .i64 136)]])
 (.ite (.t 36)
 .skip
 (.exit 2)))
 (.blk 3 (.seq (.reg [
 iz 37 .mv [.t 0],
 iz 38 .mv [.t 0],
 iz 39 .nilck [.t 38],
 iz 40 (.fadr 25) [.t 39],
 iz 41 (.ld 1 false) [.t 40],
 iz 42 (.slcf 1 false true false) [.t 41,.c (.int .i64 136)],
 iz 43 (.call Fn.q25) [.t 37,.t 42]])
 (.reg [
 iz 44 .mv [.t 0],
 iz 45 .mv [.t 0],
 iz 46 .nilck [.t 45],
 iz 47 (.fadr 25) [.t 46],
 iz 48 (.ld 1 false) [.t 47],
 iz 49 (.slcf 1 true false false) [.t 48,.c (.int .i64 136)],
 iz 50 (.app false 1 1) [.c (.nils),.t 49],
 iz 51 .nilck [.t 44],
 iz 52 (.fadr 25) [.t 51],
 nz (.st 1) [.t 52,.t 50]]))))
def Mc.q26_L0 : MC := (.seq (.reg [
 iz 10 (.bin .lss) [.t 9,.t 8]])
 (.seq (.ite (.t 10)
 .skip
 (.exit 0))
 (.seq (.blk 1 (.seq (.reg [
 iz 11 (.iadr 1) [.t 7,.t 9],
 iz 12 (.ld 1 false) [.t 11],
 kz 6 .mv [.t 12]])
 (.seq (.reg [
 iz 13 .mv [.t 0],
 iz 14 .nilck [.t 13],
 iz 15 (.fadr 26) [.t 14],
 iz 16 (.ld 1 false) [.t 15],
 iz 17 .mv [.t 6],
 iz 18 (.len 0) [.t 17],
 iz 19 (.bin .add) [.t 16,.t 18],
 iz 20 .nilck [.t 13],
 iz 21 (.fadr 26) [.t 20],
 nz (.st 1) [.t 21,.t 19]])
 (.seq (.reg [
 iz 22 .mv [.t 0],
 iz 23 .mv [.t 0],
 iz 24 .nilck [.t 23],
 iz 25 (.fadr 25) [.t 24],
 iz 26 (.ld 1 false) [.t 25],
 iz 27 .mv [.t 6],
 iz 28 (.app true 1 1) [.t 26,.t 27],
 iz 29 .nilck [.t 22],
 iz 30 (.fadr 25) [.t 29],
 nz (.st 1) [.t 30,.t 28]])
 (.blk 2 (.loop [] Mc.q26_L1))))))
 (.reg [
 iz 53 (.bin .add) [.t 9,.c (.int .i64 1)],
 kz 9 .mv [.t 53]]))))
def Mc.q26 : MC := (.seq (.reg [
 kz 4 .mv [.c (.int .i64 0)]])
 (.seq (.seq (.reg [
 kz 7 .mv [.t 1],
 kz 8 (.len 1) [.t 7],
 kz 9 .mv [.c (.int .i64 0)]])
 (.blk 0 (.loop [6] Mc.q26_L0)))
 (.seq (.reg [
 iz 54 .mv [.t 0],
 iz 55 .nilck [.t 54],
 iz 56 (.fadr 26) [.t 55],
 iz 57 (.ld 1 false) [.t 56],
 kz 4 .mv [.t 57]])
 .ret)))
def Ks.q32 : List Nat := [0,2,3,4,5,6,65,66]
def Rs.q32 : List RV := [.tmp 2]
def Dl.q32 : List (List Nat) := [[6]]
def Mc.q32_L0 : MC := (.seq (.reg [
 iz 67 (.bin .lss) [.t 66,.t 65]])
 (.seq (.ite (.t 67)
 .skip
 (.exit 0))
 (.seq (.blk 1 (.seq (.reg [
 iz 68 .mv [.t 66],
 kz 6 .mv [.t 68]])
 (.reg [
 iz 69 .mv [.t 5],
 iz 70 .mv [.t 6],
 iz 71 .mv [.t 3],
 iz 72 .mv [.t 6],
 iz 73 (.bin .quo) [.t 72,.c (.int .i64 8)],
 iz 74 .nilck [.t 71],
 iz 75 (.fadr 0) [.t 74],
 iz 76 (.aadr 25 1) [.t 75,.t 73],
 iz 77 (.ld 1 false) [.t 76],
 iz 78 .mv [.t 6],
 iz 79 (.bin .rem) [.t 78,.c (.int .i64 8)],
 iz 80 (.bin .mul) [.c (.int .i64 8),.t 79],
 iz 81 (.bin .shr) [.t 77,.t 80],
 iz 82 (.conv .u8) [.t 81],
 iz 83 (.iadr 1) [.t 69,.t 70],
 nz (.st 1) [.t 83,.t 82]])))
 (.reg [
 iz 84 (.bin .add) [.t 66,.c (.int .i64 1)],
 kz 66 .mv [.t 84]]))))
def Mc.q32 : MC := (.seq (.reg [
 kz 2 .mv [.c (.str [])]])
 (.seq (.seq (.rgd [
 iz 7 .mv [.t 0],
 iz 8 .nilck [.t 7],
 iz 9 (.fadr 53) [.t 8],
 iz 10 (.ld 1 false) [.t 9],
 iz 11 (.bin .neq) [.t 10,.c (.str [])],
 iz 12 .mv [.t 11],
 ⟨some (12,true),some 13,false,.mv,[.t 0]⟩,
 ⟨some (12,true),some 14,false,.nilck,[.t 13]⟩,
 ⟨some (12,true),some 15,false,.fadr 27,[.t 14]⟩,
 ⟨some (12,true),some 16,false,.ld 25 true,[.t 15]⟩,
 ⟨some (12,true),some 17,false,.mv,[.t 0]⟩,
 ⟨some (12,true),some 18,false,.nilck,[.t 17]⟩,
 ⟨some (12,true),some 19,false,.fadr 0,[.t 18]⟩,
 ⟨some (12,true),some 20,false,.ld 25 true,[.t 19]⟩,
 ⟨some (12,true),some 21,false,.bot,[]⟩,
 iz 22 .pick [.t 12,.t 21,.c (.bool false)],
 iz 23 .mv [.t 22],
 ⟨some (23,true),some 24,false,.mv,[.t 0]⟩,
 ⟨some (23,true),some 25,false,.nilck,[.t 24]⟩,
 ⟨some (23,true),some 26,false,.fadr 52,[.t 25]⟩,
 ⟨some (23,true),some 27,false,.ld 1 false,[.t 26]⟩,
 ⟨some (23,true),some 28,false,.mv,[.t 0]⟩,
 ⟨some (23,true),some 29,false,.nilck,[.t 28]⟩,
 ⟨some (23,true),some 30,false,.fadr 25,[.t 29]⟩,
 ⟨some (23,true),some 31,false,.ld 1 false,[.t 30]⟩,
 ⟨some (23,true),some 32,false,.b2s,[.t 31]⟩,
 ⟨some (23,true),some 33,false,.bin .eql,[.t 27,.t 32]⟩,
 iz 34 .pick [.t 23,.t 33,.c (.bool false)]])
 (.ite (.t 34)
 (.seq (.reg [
 iz 35 .mv [.t 0],
 iz 36 .nilck [.t 35],
 iz 37 (.fadr 53) [.t 36],
 iz 38 (.ld 1 false) [.t 37],
 kz 2 .mv [.t 38]])
 .ret)
 .skip))
 (.seq (.reg [
 iz 39 .mv [.t 0],
 iz 40 (.call Fn.q27) [.t 39],
 kz 3 .mv [.t 40]])
 (.seq (.reg [
 iz 41 (.mksl [.int .u8 0] 1) [.c (.int .i64 136),.c (.int .i64 136)],
 kz 4 .mv [.t 41]])
 (.seq (.reg [
 iz 42 .mv [.t 4],
 iz 43 .mv [.t 3],
 iz 44 .nilck [.t 43],
 iz 45 (.fadr 25) [.t 44],
 iz 46 (.ld 1 false) [.t 45],
 iz 47 (.cpy false 1) [.t 42,.t 46]])
 (.seq (.reg [
 iz 48 .mv [.t 4],
 iz 49 .mv [.t 3],
 iz 50 .nilck [.t 49],
 iz 51 (.fadr 25) [.t 50],
 iz 52 (.ld 1 false) [.t 51],
 iz 53 (.len 1) [.t 52],
 iz 54 (.iadr 1) [.t 48,.t 53],
 nz (.st 1) [.t 54,.c (.int .u8 6)]])
 (.seq (.reg [
 iz 55 .mv [.t 4],
 iz 56 (.iadr 1) [.t 55,.c (.int .i64 135)],
 iz 57 (.ld 1 false) [.t 56],
 iz 58 (.bin .xor) [.t 57,.c (.int .u8 128)],
 iz 59 (.iadr 1) [.t 55,.c (.int .i64 135)],
 nz (.st 1) [.t 59,.t 58]])
 (.seq (.reg [
 iz 60 .mv [.t 3],
 iz 61 .mv [.t 4],
 iz 62 (.call Fn.q25) [.t 60,.t 61]])
 (.seq (.reg [
 iz 63 (.mksl [.int .u8 0] 1) [.c (.int .i64 32),.c (.int .i64 32)],
 kz 5 .mv [.t 63]])
 (.seq (.seq (.reg [
 iz 64 .mv [.t 5],
 kz 65 (.len 1) [.t 64],
 kz 66 .mv [.c (.int .i64 0)]])
 (.blk 0 (.loop [6] Mc.q32_L0)))
 (.seq (.rgd [
 iz 85 .mv [.t 0],
 iz 86 .mv [.t 0],
 iz 87 .mv [.t 0],
 iz 88 .mv [.t 0],
 iz 89 .nilck [.t 88],
 iz 90 (.fadr 0) [.t 89],
 iz 91 (.ld 25 true) [.t 90],
 iz 92 .mv [.t 0],
 iz 93 .nilck [.t 92],
 iz 94 (.fadr 25) [.t 93],
 iz 95 (.ld 1 false) [.t 94],
 iz 96 .b2s [.t 95],
 iz 97 .mv [.t 5],
 iz 98 .b2s [.t 97],
 iz 99 .nilck [.t 85],
 iz 100 (.fadr 27) [.t 99],
 nz (.st 25) [.t 100,.t 91],
 iz 101 .nilck [.t 86],
 iz 102 (.fadr 52) [.t 101],
 nz (.st 1) [.t 102,.t 96],
 iz 103 .nilck [.t 87],
 iz 104 (.fadr 53) [.t 103],
 nz (.st 1) [.t 104,.t 98]])
 (.seq (.reg [
 iz 105 .mv [.t 0],
 iz 106 .nilck [.t 105],
 iz 107 (.fadr 53) [.t 106],
 iz 108 (.ld 1 false) [.t 107],
 kz 2 .mv [.t 108]])
 .ret))))))))))))
def Ks.q25 : List Nat := [0,1,4,6,7]
def Rs.q25 : List RV := []
def Dl.q25 : List (List Nat) := [[4]]
def Mc.q25_L0 : MC := (.seq (.reg [
 iz 8 (.bin .lss) [.t 7,.t 6]])
 (.seq (.ite (.t 8)
 .skip
 (.exit 0))
 (.seq (.blk 1 (.seq (.reg [
 iz 9 .mv [.t 7],
 kz 4 .mv [.t 9]])
 (.rgd [
 iz 10 .mv [.t 0],
 iz 11 .mv [.t 4],
 iz 12 (.bin .quo) [.t 11,.c (.int .i64 8)],
 iz 13 .nilck [.t 10],
 iz 14 (.fadr 0) [.t 13],
 iz 15 (.aadr 25 1) [.t 14,.t 12],
 iz 16 (.ld 1 false) [.t 15],
 iz 17 .mv [.t 1],
 iz 18 .mv [.t 4],
 iz 19 (.iadr 1) [.t 17,.t 18],
 iz 20 (.ld 1 false) [.t 19],
 iz 21 (.conv .u64) [.t 20],
 iz 22 .mv [.t 4],
 iz 23 (.bin .rem) [.t 22,.c (.int .i64 8)],
 iz 24 (.bin .mul) [.c (.int .i64 8),.t 23],
 iz 25 (.bin .shl) [.t 21,.t 24],
 iz 26 (.bin .xor) [.t 16,.t 25],
 iz 27 .nilck [.t 10],
 iz 28 (.fadr 0) [.t 27],
 iz 29 (.aadr 25 1) [.t 28,.t 12],
 nz (.st 1) [.t 29,.t 26]])))
 (.reg [
 iz 30 (.bin .add) [.t 7,.c (.int .i64 1)],
 kz 7 .mv [.t 30]]))))
def Mc.q25 : MC := (.seq (.seq (.reg [
 iz 5 .mv [.t 1],
 kz 6 (.len 1) [.t 5],
 kz 7 .mv [.c (.int .i64 0)]])
 (.blk 0 (.loop [4] Mc.q25_L0)))
 (.reg [
 iz 31 .mv [.t 0],
 iz 32 .mv [.t 0],
 iz 33 .nilck [.t 32],
 iz 34 (.fadr 0) [.t 33],
 iz 35 (.ld 25 true) [.t 34],
 iz 36 (.call Fn.q66) [.t 35],
 iz 37 .nilck [.t 31],
 iz 38 (.fadr 0) [.t 37],
 nz (.st 25) [.t 38,.t 36]]))
def Ks.q27 : List Nat := [0,2,3]
def Rs.q27 : List RV := [.tmp 2]
def Dl.q27 : List (List Nat) := []
def Mc.q27 : MC := (.seq (.reg [
 kz 2 .mv [.c (.nilp)]])
 (.seq (.reg [
 iz 4 .mv [.t 0],
 iz 5 .nilck [.t 4],
 iz 6 (.ld 54 true) [.t 5],
 kz 3 (.alloc [.int .u64 0,.int .u64 0,.int .u64 0,.int .u64 0,.int .u64 0,.int .u64 0,.int .u64 0,.int .u64 0,.int .u64 0,.int .u64 0,.int .u64 0,.int .u64 0,.int .u64 0,.int .u64 0,.int .u64 0,.int .u64 0,.int .u64 0,.int .u64 0,.int .u64 0,.int .u64 0,.int .u64 0,.int .u64 0,.int .u64 0,.int .u64 0,.int .u64 0,.nils,.int .i64 0,.int .u64 0,.int .u64 0,.int .u64 0,.int .u64 0,.int .u64 0,.int .u64 0,.int .u64 0,.int .u64 0,.int .u64 0,.int .u64 0,.int .u64 0,.int .u64 0,.int .u64 0,.int .u64 0,.int .u64 0,.int .u64 0,.int .u64 0,.int .u64 0,.int .u64 0,.int .u64 0,.int .u64 0,.int .u64 0,.int .u64 0,.int .u64 0,.int .u64 0,.str [],.str []]) [],
 nz (.st 54) [.t 3,.t 6]])
 (.seq (.reg [
 iz 7 .mv [.t 0],
 iz 8 .nilck [.t 7],
 iz 9 (.fadr 25) [.t 8],
 iz 10 (.ld 1 false) [.t 9],
 iz 11 (.app false 1 1) [.c (.nils),.t 10],
 iz 12 (.fadr 25) [.t 3],
 nz (.st 1) [.t 12,.t 11]])
 (.seq (.reg [
 kz 2 .mv [.t 3]])
 .ret))))
def Ks.q66 : List Nat := [0,1,2,3,5,7,8]
def Rs.q66 : List RV := [.cell 2 25 true]
def Dl.q66 : List (List Nat) := [[5]]
def Mc.q66_L0 : MC := (.seq (.reg [
 iz 9 (.bin .lss) [.t 8,.c (.int .i64 24)]])
 (.seq (.ite (.t 9)
 .skip
 (.exit 0))
 (.seq (.blk 1 (.seq (.reg [
 iz 10 (.iarr 24 1 false) [.t 7,.t 8],
 kz 5 .mv [.t 10]])
 (.reg [
 iz 11 (.ld 25 true) [.t 1],
 iz 12 (.ld 25 true) [.t 3],
 iz 13 .mv [.t 5],
 iz 14 (.call Fn.q80) [.t 11,.t 12,.t 13],
 nz (.st 25) [.t 1,.t 14]])))
 (.reg [
 iz 15 (.bin .add) [.t 8,.c (.int .i64 1)],
 kz 8 .mv [.t 15]]))))
def Mc.q66 : MC := (.seq (.reg [
 kz 1 .box [.t 0],
 kz 2 (.alloc [.int .u64 0,.int .u64 0,.int .u64 0,.int .u64 0,.int .u64 0,.int .u64 0,.int .u64 0,.int .u64 0,.int .u64 0,.int .u64 0,.int .u64 0,.int .u64 0,.int .u64 0,.int .u64 0,.int .u64 0,.int .u64 0,.int .u64 0,.int .u64 0,.int .u64 0,.int .u64 0,.int .u64 0,.int .u64 0,.int .u64 0,.int .u64 0,.int .u64 0]) []])
 (.seq (.reg [
 iz 6 (.call Fn.q67) [],
 kz 3 (.alloc [.int .i64 0,.int .i64 0,.int .i64 0,.int .i64 0,.int .i64 0,.int .i64 0,.int .i64 0,.int .i64 0,.int .i64 0,.int .i64 0,.int .i64 0,.int .i64 0,.int .i64 0,.int .i64 0,.int .i64 0,.int .i64 0,.int .i64 0,.int .i64 0,.int .i64 0,.int .i64 0,.int .i64 0,.int .i64 0,.int .i64 0,.int .i64 0,.int .i64 0]) [],
 nz (.st 25) [.t 3,.t 6]])
 (.seq (.seq (.reg [
 kz 7 (.call Fn.q56) [],
 kz 8 .mv [.c (.int .i64 0)]])
 (.blk 0 (.loop [5] Mc.q66_L0)))
 (.seq (.reg [
 iz 16 (.ld 25 true) [.t 1],
 nz (.st 25) [.t 2,.t 16]])
 .ret))))
def Ks.q67 : List Nat := [0]
def Rs.q67 : List RV := [.cell 0 25 true]
def Dl.q67 : List (List Nat) := []
def Mc.q67 : MC := (.seq (.reg [
 kz 0 (.alloc [.int .i64 0,.int .i64 0,.int .i64 0,.int .i64 0,.int .i64 0,.int .i64 0,.int .i64 0,.int .i64 0,.int .i64 0,.int .i64 0,.int .i64 0,.int .i64 0,.int .i64 0,.int .i64 0,.int .i64 0,.int .i64 0,.int .i64 0,.int .i64 0,.int .i64 0,.int .i64 0,.int .i64 0,.int .i64 0,.int .i64 0,.int .i64 0,.int .i64 0]) []])
 (.seq (.reg [
 iz 1 (.bld [.int .i64 0,.int .i64 0,.int .i64 0,.int .i64 0,.int .i64 0,.int .i64 0,.int .i64 0,.int .i64 0,.int .i64 0,.int .i64 0,.int .i64 0,.int .i64 0,.int .i64 0,.int .i64 0,.int .i64 0,.int .i64 0,.int .i64 0,.int .i64 0,.int .i64 0,.int .i64 0,.int .i64 0,.int .i64 0,.int .i64 0,.int .i64 0,.int .i64 0] [(0,1),(1,1),(2,1),(3,1),(4,1),(5,1),(6,1),(7,1),(8,1),(9,1),(10,1),(11,1),(12,1),(13,1),(14,1),(15,1),(16,1),(17,1),(18,1),(19,1),(20,1),(21,1),(22,1),(23,1),(24,1)]) [.c (.int .i64 0),.c (.int .i64 1),.c (.int .i64 62),.c (.int .i64 28),.c (.int .i64 27),.c (.int .i64 36),.c (.int .i64 44),.c (.int .i64 6),.c (.int .i64 55),.c (.int .i64 20),.c (.int .i64 3),.c (.int .i64 10),.c (.int .i64 43),.c (.int .i64 25),.c (.int .i64 39),.c (.int .i64 41),.c (.int .i64 45),.c (.int .i64 15),.c (.int .i64 21),.c (.int .i64 8),.c (.int .i64 18),.c (.int .i64 2),.c (.int .i64 61),.c (.int .i64 56),.c (.int .i64 14)],
 nz (.st 25) [.t 0,.t 1]])
 .ret))
def Ks.q56 : List Nat := [0]
def Rs.q56 : List RV := [.cell 0 24 true]
def Dl.q56 : List (List Nat) := []
def Mc.q56 : MC := (.seq (.reg [
 kz 0 (.alloc [.int .u64 0,.int .u64 0,.int .u64 0,.int .u64 0,.int .u64 0,.int .u64 0,.int .u64 0,.int .u64 0,.int .u64 0,.int .u64 0,.int .u64 0,.int .u64 0,.int .u64 0,.int .u64 0,.int .u64 0,.int .u64 0,.int .u64 0,.int .u64 0,.int .u64 0,.int .u64 0,.int .u64 0,.int .u64 0,.int .u64 0,.int .u64 0]) []])
 (.seq (.reg [
 iz 1 (.bld [.int .u64 0,.int .u64 0,.int .u64 0,.int .u64 0,.int .u64 0,.int .u64 0,.int .u64 0,.int .u64 0,.int .u64 0,.int .u64 0,.int .u64 0,.int .u64 0,.int .u64 0,.int .u64 0,.int .u64 0,.int .u64 0,.int .u64 0,.int .u64 0,.int .u64 0,.int .u64 0,.int .u64 0,.int .u64 0,.int .u64 0,.int .u64 0] [(0,1),(1,1),(2,1),(3,1),(4,1),(5,1),(6,1),(7,1),(8,1),(9,1),(10,1),(11,1),(12,1),(13,1),(14,1),(15,1),(16,1),(17,1),(18,1),(19,1),(20,1),(21,1),(22,1),(23,1)]) [.c (.int .u64 1),.c (.int .u64 32898),.c (.int .u64 9223372036854808714),.c (.int .u64 9223372039002292224),.c (.int .u64 32907),.c (.int .u64 2147483649),.c (.int .u64 9223372039002292353),.c (.int .u64 9223372036854808585),.c (.int .u64 138),.c (.int .u64 136),.c (.int .u64 2147516425),.c (.int .u64 2147483658),.c (.int .u64 2147516555),.c (.int .u64 9223372036854775947),.c (.int .u64 9223372036854808713),.c (.int .u64 9223372036854808579),.c (.int .u64 9223372036854808578),.c (.int .u64 9223372036854775936),.c (.int .u64 32778),.c (.int .u64 9223372039002259466),.c (.int .u64 9223372039002292353),.c (.int .u64 9223372036854808704),.c (.int .u64 2147483649),.c (.int .u64 9223372039002292232)],
 nz (.st 24) [.t 0,.t 1]])
 .ret))
def Ks.q80 : List Nat := [0,1,2,3,4,6,7,8,9,10,11,12,13,14,15,16,17,18,30,31,69]
def Rs.q80 : List RV := [.cell 6 25 true]
def Dl.q80 : List (List Nat) := [[8,9],[11,12,13,14],[15,16]]
def Mc.q80_L0 : MC := (.seq (.reg [
 iz 19 (.bin .lss) [.t 18,.c (.int .i64 25)]])
 (.seq (.ite (.t 19)
 .skip
 (.exit 0))
 (.seq (.blk 1 (.seq (.reg [
 iz 20 .mv [.t 18],
 iz 21 (.iarr 25 1 false) [.t 17,.t 18],
 kz 8 .mv [.t 20],
 kz 9 .mv [.t 21]])
 (.reg [
 iz 22 .mv [.t 8],
 iz 23 (.bin .rem) [.t 22,.c (.int .i64 5)],
 iz 24 (.aadr 5 1) [.t 7,.t 23],
 iz 25 (.ld 1 false) [.t 24],
 iz 26 .mv [.t 9],
 iz 27 (.bin .xor) [.t 25,.t 26],
 iz 28 (.aadr 5 1) [.t 7,.t 23],
 nz (.st 1) [.t 28,.t 27]])))
 (.reg [
 iz 29 (.bin .add) [.t 18,.c (.int .i64 1)],
 kz 18 .mv [.t 29]]))))
def Mc.q80_L1 : MC := (.seq (.reg [
 iz 32 (.bin .lss) [.t 31,.c (.int .i64 25)]])
 (.seq (.ite (.t 32)
 .skip
 (.exit 2))
 (.seq (.blk 3 (.seq (.reg [
 iz 33 .mv [.t 31],
 iz 34 (.iarr 25 1 false) [.t 30,.t 31],
 kz 11 .mv [.t 33],
 kz 12 .mv [.t 34]])
 (.seq (.reg [
 iz 35 .mv [.t 11],
 iz 36 (.bin .rem) [.t 35,.c (.int .i64 5)],
 iz 37 .mv [.t 11],
 iz 38 (.bin .quo) [.t 37,.c (.int .i64 5)],
 kz 13 .mv [.t 36],
 kz 14 .mv [.t 38]])
 (.seq (.rgd [
 iz 39 .mv [.t 12],
 iz 40 .mv [.t 13],
 iz 41 (.bin .add) [.t 40,.c (.int .i64 4)],
 iz 42 (.bin .rem) [.t 41,.c (.int .i64 5)],
 iz 43 (.aadr 5 1) [.t 7,.t 42],
 iz 44 (.ld 1 false) [.t 43],
 iz 45 .mv [.t 13],
 iz 46 (.bin .add) [.t 45,.c (.int .i64 1)],
 iz 47 (.bin .rem) [.t 46,.c (.int .i64 5)],
 iz 48 (.aadr 5 1) [.t 7,.t 47],
 iz 49 (.ld 1 false) [.t 48],
 iz 50 (.call Fn.q30) [.t 49,.c (.int .i64 1)],
 iz 51 (.bin .xor) [.t 44,.t 50],
 iz 52 (.bin .xor) [.t 39,.t 51],
 kz 12 .mv [.t 52]])
 (.reg [
 iz 53 .mv [.t 14],
 iz 54 .mv [.t 13],
 iz 55 (.bin .mul) [.c (.int .i64 2),.t 54],
 iz 56 .mv [.t 14],
 iz 57 (.bin .mul) [.c (.int .i64 3),.t 56],
 iz 58 (.bin .add) [.t 55,.t 57],
 iz 59 (.bin .rem) [.t 58,.c (.int .i64 5)],
 iz 60 (.bin .mul) [.c (.int .i64 5),.t 59],
 iz 61 (.bin .add) [.t 53,.t 60],
 iz 62 .mv [.t 12],
 iz 63 .mv [.t 11],
 iz 64 (.aadr 25 1) [.t 4,.t 63],
 iz 65 (.ld 1 false) [.t 64],
 iz 66 (.call Fn.q30) [.t 62,.t 65],
 iz 67 (.aadr 25 1) [.t 10,.t 61],
 nz (.st 1) [.t 67,.t 66]])))))
 (.reg [
 iz 68 (.bin .add) [.t 31,.c (.int .i64 1)],
 kz 31 .mv [.t 68]]))))
def Mc.q80_L2 : MC := (.seq (.reg [
 iz 70 (.bin .lss) [.t 69,.c (.int .i64 25)]])
 (.seq (.ite (.t 70)
 .skip
 (.exit 4))
 (.seq (.blk 5 (.seq (.reg [
 iz 71 .mv [.t 69],
 kz 15 .mv [.t 71]])
 (.seq (.reg [
 iz 72 .mv [.t 15],
 iz 73 .mv [.t 15],
 iz 74 (.bin .rem) [.t 73,.c (.int .i64 5)],
 iz 75 (.bin .sub) [.t 72,.t 74],
 kz 16 .mv [.t 75]])
 (.rgd [
 iz 76 .mv [.t 15],
 iz 77 .mv [.t 15],
 iz 78 (.aadr 25 1) [.t 10,.t 77],
 iz 79 (.ld 1 false) [.t 78],
 iz 80 .mv [.t 16],
 iz 81 .mv [.t 15],
 iz 82 (.bin .add) [.t 81,.c (.int .i64 1)],
 iz 83 (.bin .rem) [.t 82,.c (.int .i64 5)],
 iz 84 (.bin .add) [.t 80,.t 83],
 iz 85 (.aadr 25 1) [.t 10,.t 84],
 iz 86 (.ld 1 false) [.t 85],
 iz 87 (.un .xor) [.t 86],
 iz 88 .mv [.t 16],
 iz 89 .mv [.t 15],
 iz 90 (.bin .add) [.t 89,.c (.int .i64 2)],
 iz 91 (.bin .rem) [.t 90,.c (.int .i64 5)],
 iz 92 (.bin .add) [.t 88,.t 91],
 iz 93 (.aadr 25 1) [.t 10,.t 92],
 iz 94 (.ld 1 false) [.t 93],
 iz 95 (.bin .and) [.t 87,.t 94],
 iz 96 (.bin .xor) [.t 79,.t 95],
 iz 97 (.aadr 25 1) [.t 3,.t 76],
 nz (.st 1) [.t 97,.t 96]]))))
 (.reg [
 iz 98 (.bin .add) [.t 69,.c (.int .i64 1)],
 kz 69 .mv [.t 98]]))))
def Mc.q80 : MC := (.seq (.reg [
 kz 3 .box [.t 0],
 kz 4 .box [.t 1],
 kz 6 (.alloc [.int .u64 0,.int .u64 0,.int .u64 0,.int .u64 0,.int .u64 0,.int .u64 0,.int .u64 0,.int .u64 0,.int .u64 0,.int .u64 0,.int .u64 0,.int .u64 0,.int .u64 0,.int .u64 0,.int .u64 0,.int .u64 0,.int .u64 0,.int .u64 0,.int .u64 0,.int .u64 0,.int .u64 0,.int .u64 0,.int .u64 0,.int .u64 0,.int .u64 0]) []])
 (.seq (.reg [
 kz 7 (.alloc [.int .u64 0,.int .u64 0,.int .u64 0,.int .u64 0,.int .u64 0]) []])
 (.seq (.seq (.reg [
 kz 17 (.ld 25 true) [.t 3],
 kz 18 .mv [.c (.int .i64 0)]])
 (.blk 0 (.loop [8,9] Mc.q80_L0)))
 (.seq (.reg [
 kz 10 (.alloc [.int .u64 0,.int .u64 0,.int .u64 0,.int .u64 0,.int .u64 0,.int .u64 0,.int .u64 0,.int .u64 0,.int .u64 0,.int .u64 0,.int .u64 0,.int .u64 0,.int .u64 0,.int .u64 0,.int .u64 0,.int .u64 0,.int .u64 0,.int .u64 0,.int .u64 0,.int .u64 0,.int .u64 0,.int .u64 0,.int .u64 0,.int .u64 0,.int .u64 0]) []])
 (.seq (.seq (.reg [
 kz 30 (.ld 25 true) [.t 3],
 kz 31 .mv [.c (.int .i64 0)]])
 (.blk 2 (.loop [11,12,13,14] Mc.q80_L1)))
 (.seq (.seq (.reg [
 kz 69 .mv [.c (.int .i64 0)]])
 (.blk 4 (.loop [15,16] Mc.q80_L2)))
 (.seq (.reg [
 iz 99 (.aadr 25 1) [.t 3,.c (.int .i64 0)],
 iz 100 (.ld 1 false) [.t 99],
 iz 101 .mv [.t 2],
 iz 102 (.bin .xor) [.t 100,.t 101],
 iz 103 (.aadr 25 1) [.t 3,.c (.int .i64 0)],
 nz (.st 1) [.t 103,.t 102]])
 (.seq (.reg [
 iz 104 (.ld 25 true) [.t 3],
 nz (.st 25) [.t 6,.t 104]])
 .ret))))))))
def Ks.q30 : List Nat := [0,1,4,5]
def Rs.q30 : List RV := [.tmp 4]
def Dl.q30 : List (List Nat) := []
def Mc.q30 : MC := (.seq (.reg [
 kz 4 .mv [.c (.int .u64 0)]])
 (.seq (.reg [
 iz 6 .mv [.t 1],
 iz 7 (.conv .u64) [.t 6],
 iz 8 (.bin .and) [.t 7,.c (.int .u64 63)],
 kz 5 .mv [.t 8]])
 (.seq (.reg [
 iz 9 .mv [.t 0],
 iz 10 .mv [.t 5],
 iz 11 (.bin .shl) [.t 9,.t 10],
 iz 12 .mv [.t 0],
 iz 13 .mv [.t 5],
 iz 14 (.bin .sub) [.c (.int .u64 64),.t 13],
 iz 15 (.bin .shr) [.t 12,.t 14],
 iz 16 (.bin .or) [.t 11,.t 15],
 kz 4 .mv [.t 16]])
 .ret)))
end Go.Proofs.YtopiadllkglamaaGreatDoor
