/- The functions of manifests and the digest of the reference,resolved: by program (Gen.lean). The reference's digest,plain: its round is the program's,its blocks are the program's. The reference's di -/
import Derived.Test.YtopiadllkglamaaGreatDoorWRecMc
import Derived.Test.YtopiadllkglamaaGreatDoorWRmH
import Derived.KernelRfl
namespace Go.Proofs.YtopiadllkglamaaGreatDoor
def Ks.q68 : List Nat := [0,1,4]
def Rs.q68 : List RV := [.tmp 4]
def Dl.q68 : List (List Nat) := []
def Mc.q68 : MC := (.seq (.reg [
  kz 4 .mv [.c (.int .u64 0)]])
 (.seq (.reg [
  iz 5 .mv [.t 0],
  iz 6 .mv [.t 1],
  iz 7 (.conv .u64) [.t 6],
  iz 8 (.bin .shl) [.t 5,.t 7],
  iz 9 .mv [.t 0],
  iz 10 .mv [.t 1],
  iz 11 (.bin .sub) [.c (.int .i64 64),.t 10],
  iz 12 (.conv .u64) [.t 11],
  iz 13 (.bin .shr) [.t 9,.t 12],
  iz 14 (.bin .or) [.t 8,.t 13],
  kz 4 .mv [.t 14]])
 .ret))
def Ks.q44 : List Nat := [0,1,4,5]
def Rs.q44 : List RV := [.tmp 4]
def Dl.q44 : List (List Nat) := []
def Mc.q44 : MC := (.seq (.reg [
  kz 4 .mv [.c (.int .i64 0)]])
 (.seq (.reg [
  iz 6 (.bsl false 1) [.c (.int .i64 0),.c (.int .i64 1),.c (.int .i64 62),.c (.int .i64 28),.c (.int .i64 27),.c (.int .i64 36),.c (.int .i64 44),.c (.int .i64 6),.c (.int .i64 55),.c (.int .i64 20),.c (.int .i64 3),.c (.int .i64 10),.c (.int .i64 43),.c (.int .i64 25),.c (.int .i64 39),.c (.int .i64 41),.c (.int .i64 45),.c (.int .i64 15),.c (.int .i64 21),.c (.int .i64 8),.c (.int .i64 18),.c (.int .i64 2),.c (.int .i64 61),.c (.int .i64 56),.c (.int .i64 14)],
  kz 5 .mv [.t 6]])
 (.seq (.reg [
  iz 7 .mv [.t 5],
  iz 8 .mv [.t 0],
  iz 9 .mv [.t 1],
  iz 10 (.bin .mul) [.c (.int .i64 5),.t 9],
  iz 11 (.bin .add) [.t 8,.t 10],
  iz 12 (.iadr 1) [.t 7,.t 11],
  iz 13 (.ld 1 false) [.t 12],
  kz 4 .mv [.t 13]])
 .ret)))
def Ks.q36 : List Nat := [0,2,3]
def Rs.q36 : List RV := [.tmp 2]
def Dl.q36 : List (List Nat) := []
def Mc.q36 : MC := (.seq (.reg [
  kz 2 .mv [.c (.int .u64 0)]])
 (.seq (.reg [
  iz 4 (.bsl false 1) [.c (.int .u64 1),.c (.int .u64 32898),.c (.int .u64 9223372036854808714),.c (.int .u64 9223372039002292224),.c (.int .u64 32907),.c (.int .u64 2147483649),.c (.int .u64 9223372039002292353),.c (.int .u64 9223372036854808585),.c (.int .u64 138),.c (.int .u64 136),.c (.int .u64 2147516425),.c (.int .u64 2147483658),.c (.int .u64 2147516555),.c (.int .u64 9223372036854775947),.c (.int .u64 9223372036854808713),.c (.int .u64 9223372036854808579),.c (.int .u64 9223372036854808578),.c (.int .u64 9223372036854775936),.c (.int .u64 32778),.c (.int .u64 9223372039002259466),.c (.int .u64 9223372039002292353),.c (.int .u64 9223372036854808704),.c (.int .u64 2147483649),.c (.int .u64 9223372039002292232)],
  kz 3 .mv [.t 4]])
 (.seq (.reg [
  iz 5 .mv [.t 3],
  iz 6 .mv [.t 0],
  iz 7 (.iadr 1) [.t 5,.t 6],
  iz 8 (.ld 1 false) [.t 7],
  kz 2 .mv [.t 8]])
 .ret)))
def Ks.q55 : List Nat := [0,1,2,4,5,6,7,8,9,10,11,12,13]
def Rs.q55 : List RV := [.cell 4 25 true]
def Dl.q55 : List (List Nat) := [[],[9,10],[],[13],[]]
def Mc.q55_L0 : MC := (.seq (.seq (.reg [
  iz 14 .mv [.t 6],
  iz 15 (.bin .lss) [.t 14,.c (.int .i64 5)]])
 (.ite (.t 15)
  .skip
  (.exit 0)))
 (.seq (.blk 1 (.rgd [
  iz 18 .mv [.t 6],
  iz 19 .mv [.t 6],
  iz 20 (.aadr 25 1) [.t 2,.t 19],
  iz 21 (.ld 1 false) [.t 20],
  iz 22 .mv [.t 6],
  iz 23 (.bin .add) [.t 22,.c (.int .i64 5)],
  iz 24 (.aadr 25 1) [.t 2,.t 23],
  iz 25 (.ld 1 false) [.t 24],
  iz 26 (.bin .xor) [.t 21,.t 25],
  iz 27 .mv [.t 6],
  iz 28 (.bin .add) [.t 27,.c (.int .i64 10)],
  iz 29 (.aadr 25 1) [.t 2,.t 28],
  iz 30 (.ld 1 false) [.t 29],
  iz 31 (.bin .xor) [.t 26,.t 30],
  iz 32 .mv [.t 6],
  iz 33 (.bin .add) [.t 32,.c (.int .i64 15)],
  iz 34 (.aadr 25 1) [.t 2,.t 33],
  iz 35 (.ld 1 false) [.t 34],
  iz 36 (.bin .xor) [.t 31,.t 35],
  iz 37 .mv [.t 6],
  iz 38 (.bin .add) [.t 37,.c (.int .i64 20)],
  iz 39 (.aadr 25 1) [.t 2,.t 38],
  iz 40 (.ld 1 false) [.t 39],
  iz 41 (.bin .xor) [.t 36,.t 40],
  iz 42 (.aadr 5 1) [.t 5,.t 18],
  nz (.st 1) [.t 42,.t 41]]))
 (.reg [
  iz 16 .mv [.t 6],
  iz 17 (.bin .add) [.t 16,.c (.int .i64 1)],
  kz 6 .mv [.t 17]])))
def Mc.q55_L2 : MC := (.seq (.seq (.reg [
  iz 59 .mv [.t 10],
  iz 60 (.bin .lss) [.t 59,.c (.int .i64 5)]])
 (.ite (.t 60)
  .skip
  (.exit 4)))
 (.seq (.blk 5 (.rgd [
  iz 63 .mv [.t 10],
  iz 64 .mv [.t 8],
  iz 65 (.bin .mul) [.c (.int .i64 2),.t 64],
  iz 66 .mv [.t 10],
  iz 67 (.bin .mul) [.c (.int .i64 3),.t 66],
  iz 68 (.bin .add) [.t 65,.t 67],
  iz 69 (.bin .rem) [.t 68,.c (.int .i64 5)],
  iz 70 (.bin .mul) [.c (.int .i64 5),.t 69],
  iz 71 (.bin .add) [.t 63,.t 70],
  iz 72 .mv [.t 8],
  iz 73 .mv [.t 10],
  iz 74 (.bin .mul) [.c (.int .i64 5),.t 73],
  iz 75 (.bin .add) [.t 72,.t 74],
  iz 76 (.aadr 25 1) [.t 2,.t 75],
  iz 77 (.ld 1 false) [.t 76],
  iz 78 .mv [.t 9],
  iz 79 (.bin .xor) [.t 77,.t 78],
  iz 80 .mv [.t 8],
  iz 81 .mv [.t 10],
  iz 82 (.call Fn.q44) [.t 80,.t 81],
  iz 83 (.call Fn.q68) [.t 79,.t 82],
  iz 84 (.aadr 25 1) [.t 7,.t 71],
  nz (.st 1) [.t 84,.t 83]]))
 (.reg [
  iz 61 .mv [.t 10],
  iz 62 (.bin .add) [.t 61,.c (.int .i64 1)],
  kz 10 .mv [.t 62]])))
def Mc.q55_L1 : MC := (.seq (.seq (.reg [
  iz 43 .mv [.t 8],
  iz 44 (.bin .lss) [.t 43,.c (.int .i64 5)]])
 (.ite (.t 44)
  .skip
  (.exit 2)))
 (.seq (.blk 3 (.seq (.rgd [
  iz 47 .mv [.t 8],
  iz 48 (.bin .add) [.t 47,.c (.int .i64 4)],
  iz 49 (.bin .rem) [.t 48,.c (.int .i64 5)],
  iz 50 (.aadr 5 1) [.t 5,.t 49],
  iz 51 (.ld 1 false) [.t 50],
  iz 52 .mv [.t 8],
  iz 53 (.bin .add) [.t 52,.c (.int .i64 1)],
  iz 54 (.bin .rem) [.t 53,.c (.int .i64 5)],
  iz 55 (.aadr 5 1) [.t 5,.t 54],
  iz 56 (.ld 1 false) [.t 55],
  iz 57 (.call Fn.q68) [.t 56,.c (.int .i64 1)],
  iz 58 (.bin .xor) [.t 51,.t 57],
  kz 9 .mv [.t 58]])
 (.seq (.reg [
  kz 10 .mv [.c (.int .i64 0)]])
 (.blk 4 (.loop [] Mc.q55_L2)))))
 (.reg [
  iz 45 .mv [.t 8],
  iz 46 (.bin .add) [.t 45,.c (.int .i64 1)],
  kz 8 .mv [.t 46]])))
def Mc.q55_L4 : MC := (.seq (.seq (.reg [
  iz 89 .mv [.t 13],
  iz 90 (.bin .lss) [.t 89,.c (.int .i64 5)]])
 (.ite (.t 90)
  .skip
  (.exit 8)))
 (.seq (.blk 9 (.rgd [
  iz 93 .mv [.t 12],
  iz 94 .mv [.t 13],
  iz 95 (.bin .mul) [.c (.int .i64 5),.t 94],
  iz 96 (.bin .add) [.t 93,.t 95],
  iz 97 .mv [.t 12],
  iz 98 .mv [.t 13],
  iz 99 (.bin .mul) [.c (.int .i64 5),.t 98],
  iz 100 (.bin .add) [.t 97,.t 99],
  iz 101 (.aadr 25 1) [.t 7,.t 100],
  iz 102 (.ld 1 false) [.t 101],
  iz 103 .mv [.t 12],
  iz 104 (.bin .add) [.t 103,.c (.int .i64 1)],
  iz 105 (.bin .rem) [.t 104,.c (.int .i64 5)],
  iz 106 .mv [.t 13],
  iz 107 (.bin .mul) [.c (.int .i64 5),.t 106],
  iz 108 (.bin .add) [.t 105,.t 107],
  iz 109 (.aadr 25 1) [.t 7,.t 108],
  iz 110 (.ld 1 false) [.t 109],
  iz 111 (.un .xor) [.t 110],
  iz 112 .mv [.t 12],
  iz 113 (.bin .add) [.t 112,.c (.int .i64 2)],
  iz 114 (.bin .rem) [.t 113,.c (.int .i64 5)],
  iz 115 .mv [.t 13],
  iz 116 (.bin .mul) [.c (.int .i64 5),.t 115],
  iz 117 (.bin .add) [.t 114,.t 116],
  iz 118 (.aadr 25 1) [.t 7,.t 117],
  iz 119 (.ld 1 false) [.t 118],
  iz 120 (.bin .and) [.t 111,.t 119],
  iz 121 (.bin .xor) [.t 102,.t 120],
  iz 122 (.aadr 25 1) [.t 11,.t 96],
  nz (.st 1) [.t 122,.t 121]]))
 (.reg [
  iz 91 .mv [.t 13],
  iz 92 (.bin .add) [.t 91,.c (.int .i64 1)],
  kz 13 .mv [.t 92]])))
def Mc.q55_L3 : MC := (.seq (.seq (.reg [
  iz 85 .mv [.t 12],
  iz 86 (.bin .lss) [.t 85,.c (.int .i64 5)]])
 (.ite (.t 86)
  .skip
  (.exit 6)))
 (.seq (.blk 7 (.seq (.reg [
  kz 13 .mv [.c (.int .i64 0)]])
 (.blk 8 (.loop [] Mc.q55_L4))))
 (.reg [
  iz 87 .mv [.t 12],
  iz 88 (.bin .add) [.t 87,.c (.int .i64 1)],
  kz 12 .mv [.t 88]])))
def Mc.q55 : MC := (.seq (.reg [
  kz 2 .box [.t 0],
  kz 4 (.alloc [.int .u64 0,.int .u64 0,.int .u64 0,.int .u64 0,.int .u64 0,.int .u64 0,.int .u64 0,.int .u64 0,.int .u64 0,.int .u64 0,.int .u64 0,.int .u64 0,.int .u64 0,.int .u64 0,.int .u64 0,.int .u64 0,.int .u64 0,.int .u64 0,.int .u64 0,.int .u64 0,.int .u64 0,.int .u64 0,.int .u64 0,.int .u64 0,.int .u64 0]) []])
 (.seq (.reg [
  kz 5 (.alloc [.int .u64 0,.int .u64 0,.int .u64 0,.int .u64 0,.int .u64 0]) []])
 (.seq (.seq (.reg [
  kz 6 .mv [.c (.int .i64 0)]])
 (.blk 0 (.loop [] Mc.q55_L0)))
 (.seq (.reg [
  kz 7 (.alloc [.int .u64 0,.int .u64 0,.int .u64 0,.int .u64 0,.int .u64 0,.int .u64 0,.int .u64 0,.int .u64 0,.int .u64 0,.int .u64 0,.int .u64 0,.int .u64 0,.int .u64 0,.int .u64 0,.int .u64 0,.int .u64 0,.int .u64 0,.int .u64 0,.int .u64 0,.int .u64 0,.int .u64 0,.int .u64 0,.int .u64 0,.int .u64 0,.int .u64 0]) []])
 (.seq (.seq (.reg [
  kz 8 .mv [.c (.int .i64 0)]])
 (.blk 2 (.loop [9,10] Mc.q55_L1)))
 (.seq (.reg [
  kz 11 (.alloc [.int .u64 0,.int .u64 0,.int .u64 0,.int .u64 0,.int .u64 0,.int .u64 0,.int .u64 0,.int .u64 0,.int .u64 0,.int .u64 0,.int .u64 0,.int .u64 0,.int .u64 0,.int .u64 0,.int .u64 0,.int .u64 0,.int .u64 0,.int .u64 0,.int .u64 0,.int .u64 0,.int .u64 0,.int .u64 0,.int .u64 0,.int .u64 0,.int .u64 0]) []])
 (.seq (.seq (.reg [
  kz 12 .mv [.c (.int .i64 0)]])
 (.blk 6 (.loop [13] Mc.q55_L3)))
 (.seq (.reg [
  iz 123 (.aadr 25 1) [.t 11,.c (.int .i64 0)],
  iz 124 (.ld 1 false) [.t 123],
  iz 125 .mv [.t 1],
  iz 126 (.bin .xor) [.t 124,.t 125],
  iz 127 (.aadr 25 1) [.t 11,.c (.int .i64 0)],
  nz (.st 1) [.t 127,.t 126]])
 (.seq (.reg [
  iz 128 (.ld 25 true) [.t 11],
  nz (.st 25) [.t 4,.t 128]])
 .ret)))))))))
def Ks.q39 : List Nat := [0,1,2,3]
def Rs.q39 : List RV := [.cell 2 25 true]
def Dl.q39 : List (List Nat) := [[]]
def Mc.q39_L0 : MC := (.seq (.seq (.reg [
  iz 4 .mv [.t 3],
  iz 5 (.bin .lss) [.t 4,.c (.int .i64 24)]])
 (.ite (.t 5)
  .skip
  (.exit 0)))
 (.seq (.blk 1 (.rgd [
  iz 8 (.ld 25 true) [.t 1],
  iz 9 .mv [.t 3],
  iz 10 (.call Fn.q36) [.t 9],
  iz 11 (.call Fn.q55) [.t 8,.t 10],
  nz (.st 25) [.t 1,.t 11]]))
 (.reg [
  iz 6 .mv [.t 3],
  iz 7 (.bin .add) [.t 6,.c (.int .i64 1)],
  kz 3 .mv [.t 7]])))
def Mc.q39 : MC := (.seq (.reg [
  kz 1 .box [.t 0],
  kz 2 (.alloc [.int .u64 0,.int .u64 0,.int .u64 0,.int .u64 0,.int .u64 0,.int .u64 0,.int .u64 0,.int .u64 0,.int .u64 0,.int .u64 0,.int .u64 0,.int .u64 0,.int .u64 0,.int .u64 0,.int .u64 0,.int .u64 0,.int .u64 0,.int .u64 0,.int .u64 0,.int .u64 0,.int .u64 0,.int .u64 0,.int .u64 0,.int .u64 0,.int .u64 0]) []])
 (.seq (.seq (.reg [
  kz 3 .mv [.c (.int .i64 0)]])
 (.blk 0 (.loop [] Mc.q39_L0)))
 (.seq (.reg [
  iz 12 (.ld 25 true) [.t 1],
  nz (.st 25) [.t 2,.t 12]])
 .ret)))
def Ks.q65 : List Nat := [0,2,3,4,5,6,7,8]
def Rs.q65 : List RV := [.tmp 2]
def Dl.q65 : List (List Nat) := [[],[6],[],[]]
def Mc.q65_L0 : MC := (.seq (.seq (.reg [
  iz 14 .mv [.t 3],
  iz 15 (.len 1) [.t 14],
  iz 16 (.bin .rem) [.t 15,.c (.int .i64 136)],
  iz 17 (.bin .neq) [.t 16,.c (.int .i64 0)]])
 (.ite (.t 17)
  .skip
  (.exit 0)))
 (.blk 1 (.reg [
  iz 18 .mv [.t 3],
  iz 19 (.bsl false 1) [.c (.int .u8 0)],
  iz 20 (.app false 1 1) [.t 18,.t 19],
  kz 3 .mv [.t 20]])))
def Mc.q65_L2 : MC := (.seq (.seq (.reg [
  iz 39 .mv [.t 6],
  iz 40 (.bin .lss) [.t 39,.c (.int .i64 136)]])
 (.ite (.t 40)
  .skip
  (.exit 4)))
 (.seq (.blk 5 (.rgd [
  iz 43 .mv [.t 6],
  iz 44 (.bin .quo) [.t 43,.c (.int .i64 8)],
  iz 45 .mv [.t 6],
  iz 46 (.bin .quo) [.t 45,.c (.int .i64 8)],
  iz 47 (.aadr 25 1) [.t 4,.t 46],
  iz 48 (.ld 1 false) [.t 47],
  iz 49 .mv [.t 3],
  iz 50 .mv [.t 5],
  iz 51 .mv [.t 6],
  iz 52 (.bin .add) [.t 50,.t 51],
  iz 53 (.iadr 1) [.t 49,.t 52],
  iz 54 (.ld 1 false) [.t 53],
  iz 55 (.conv .u64) [.t 54],
  iz 56 .mv [.t 6],
  iz 57 (.bin .rem) [.t 56,.c (.int .i64 8)],
  iz 58 (.bin .mul) [.c (.int .i64 8),.t 57],
  iz 59 (.conv .u64) [.t 58],
  iz 60 (.bin .shl) [.t 55,.t 59],
  iz 61 (.bin .xor) [.t 48,.t 60],
  iz 62 (.aadr 25 1) [.t 4,.t 44],
  nz (.st 1) [.t 62,.t 61]]))
 (.reg [
  iz 41 .mv [.t 6],
  iz 42 (.bin .add) [.t 41,.c (.int .i64 1)],
  kz 6 .mv [.t 42]])))
def Mc.q65_L1 : MC := (.seq (.seq (.reg [
  iz 33 .mv [.t 5],
  iz 34 .mv [.t 3],
  iz 35 (.len 1) [.t 34],
  iz 36 (.bin .lss) [.t 33,.t 35]])
 (.ite (.t 36)
  .skip
  (.exit 2)))
 (.seq (.blk 3 (.seq (.seq (.reg [
  kz 6 .mv [.c (.int .i64 0)]])
 (.blk 4 (.loop [] Mc.q65_L2)))
 (.reg [
  iz 63 (.ld 25 true) [.t 4],
  iz 64 (.call Fn.q39) [.t 63],
  nz (.st 25) [.t 4,.t 64]])))
 (.reg [
  iz 37 .mv [.t 5],
  iz 38 (.bin .add) [.t 37,.c (.int .i64 136)],
  kz 5 .mv [.t 38]])))
def Mc.q65_L3 : MC := (.seq (.seq (.reg [
  iz 66 .mv [.t 8],
  iz 67 (.bin .lss) [.t 66,.c (.int .i64 32)]])
 (.ite (.t 67)
  .skip
  (.exit 6)))
 (.seq (.blk 7 (.reg [
  iz 70 .mv [.t 7],
  iz 71 .mv [.t 8],
  iz 72 .mv [.t 8],
  iz 73 (.bin .quo) [.t 72,.c (.int .i64 8)],
  iz 74 (.aadr 25 1) [.t 4,.t 73],
  iz 75 (.ld 1 false) [.t 74],
  iz 76 .mv [.t 8],
  iz 77 (.bin .rem) [.t 76,.c (.int .i64 8)],
  iz 78 (.bin .mul) [.c (.int .i64 8),.t 77],
  iz 79 (.conv .u64) [.t 78],
  iz 80 (.bin .shr) [.t 75,.t 79],
  iz 81 (.conv .u8) [.t 80],
  iz 82 (.iadr 1) [.t 70,.t 71],
  nz (.st 1) [.t 82,.t 81]]))
 (.reg [
  iz 68 .mv [.t 8],
  iz 69 (.bin .add) [.t 68,.c (.int .i64 1)],
  kz 8 .mv [.t 69]])))
def Mc.q65 : MC := (.seq (.reg [
  kz 2 .mv [.c (.str [])]])
 (.seq (.reg [
  iz 9 .mv [.t 0],
  iz 10 .s2b [.t 9],
  kz 3 .mv [.t 10]])
 (.seq (.reg [
  iz 11 .mv [.t 3],
  iz 12 (.bsl false 1) [.c (.int .u8 6)],
  iz 13 (.app false 1 1) [.t 11,.t 12],
  kz 3 .mv [.t 13]])
 (.seq (.blk 0 (.loop [] Mc.q65_L0))
 (.seq (.reg [
  iz 21 .mv [.t 3],
  iz 22 .mv [.t 3],
  iz 23 (.len 1) [.t 22],
  iz 24 (.bin .sub) [.t 23,.c (.int .i64 1)],
  iz 25 .mv [.t 3],
  iz 26 .mv [.t 3],
  iz 27 (.len 1) [.t 26],
  iz 28 (.bin .sub) [.t 27,.c (.int .i64 1)],
  iz 29 (.iadr 1) [.t 25,.t 28],
  iz 30 (.ld 1 false) [.t 29],
  iz 31 (.bin .or) [.t 30,.c (.int .u8 128)],
  iz 32 (.iadr 1) [.t 21,.t 24],
  nz (.st 1) [.t 32,.t 31]])
 (.seq (.reg [
  kz 4 (.alloc [.int .u64 0,.int .u64 0,.int .u64 0,.int .u64 0,.int .u64 0,.int .u64 0,.int .u64 0,.int .u64 0,.int .u64 0,.int .u64 0,.int .u64 0,.int .u64 0,.int .u64 0,.int .u64 0,.int .u64 0,.int .u64 0,.int .u64 0,.int .u64 0,.int .u64 0,.int .u64 0,.int .u64 0,.int .u64 0,.int .u64 0,.int .u64 0,.int .u64 0]) []])
 (.seq (.seq (.reg [
  kz 5 .mv [.c (.int .i64 0)]])
 (.blk 2 (.loop [6] Mc.q65_L1)))
 (.seq (.reg [
  iz 65 (.mksl [.int .u8 0] 1) [.c (.int .i64 32),.c (.int .i64 32)],
  kz 7 .mv [.t 65]])
 (.seq (.seq (.reg [
  kz 8 .mv [.c (.int .i64 0)]])
 (.blk 6 (.loop [] Mc.q65_L3)))
 (.seq (.reg [
  iz 83 .mv [.t 7],
  iz 84 .b2s [.t 83],
  kz 2 .mv [.t 84]])
 .ret))))))))))
def Ks.q64 : List Nat := [0,2,3,4,5,6]
def Rs.q64 : List RV := [.tmp 2,.tmp 3]
def Dl.q64 : List (List Nat) := [[]]
def Mc.q64_L0 : MC := (.seq (.seq (.reg [
  iz 10 .mv [.t 6],
  iz 11 .mv [.t 0],
  iz 12 (.len 0) [.t 11],
  iz 13 (.bin .lss) [.t 10,.t 12]])
 (.ite (.t 13)
  .skip
  (.exit 0)))
 (.seq (.blk 1 (.rgd [
  iz 16 .mv [.t 5],
  iz 17 .mv [.t 4],
  iz 18 .mv [.t 0],
  iz 19 .mv [.t 6],
  iz 20 .istr [.t 18,.t 19],
  iz 21 (.bin .shr) [.t 20,.c (.int .u64 4)],
  iz 22 .istr [.t 17,.t 21],
  iz 23 .mv [.t 4],
  iz 24 .mv [.t 0],
  iz 25 .mv [.t 6],
  iz 26 .istr [.t 24,.t 25],
  iz 27 (.bin .and) [.t 26,.c (.int .u8 15)],
  iz 28 .istr [.t 23,.t 27],
  iz 29 (.bsl false 1) [.t 22,.t 28],
  iz 30 (.app false 1 1) [.t 16,.t 29],
  kz 5 .mv [.t 30]]))
 (.reg [
  iz 14 .mv [.t 6],
  iz 15 (.bin .add) [.t 14,.c (.int .i64 1)],
  kz 6 .mv [.t 15]])))
def Mc.q64 : MC := (.seq (.reg [
  kz 2 .mv [.c (.str [])],
  kz 3 .mv [.c (.int .i64 0)]])
 (.seq (.seq (.reg [
  iz 7 .mv [.t 0],
  iz 8 (.len 0) [.t 7],
  iz 9 (.bin .neq) [.t 8,.c (.int .i64 32)]])
 (.ite (.t 9)
  (.seq (.reg [
   kz 2 .mv [.c (.str [])],
   kz 3 .mv [.c (.int .i64 1)]])
  .ret)
  .skip))
 (.seq (.reg [
  kz 4 .mv [.c (.str [48,49,50,51,52,53,54,55,56,57,97,98,99,100,101,102])]])
 (.seq (.reg [
  kz 5 (.newnil 1) []])
 (.seq (.seq (.reg [
  kz 6 .mv [.c (.int .i64 0)]])
 (.blk 0 (.loop [] Mc.q64_L0)))
 (.seq (.reg [
  iz 31 .mv [.t 5],
  iz 32 .b2s [.t 31],
  kz 2 .mv [.t 32],
  kz 3 .mv [.c (.int .i64 0)]])
 .ret))))))
def Ks.q63 : List Nat := [0,2,3]
def Rs.q63 : List RV := [.tmp 2]
def Dl.q63 : List (List Nat) := []
def Mc.q63 : MC := (.seq (.reg [
  kz 2 .mv [.c (.str [])]])
 (.seq (.reg [
  iz 6 .mv [.t 0],
  iz 7 (.call Fn.q65) [.t 6],
  iz 8 (.call Fn.q64) [.t 7],
  iz 5 .mv [.t 8],
  iz 9 (.ext 0) [.t 5],
  iz 10 (.ext 1) [.t 5],
  kz 3 .mv [.t 9],
  iz 4 .mv [.t 10]])
 (.seq (.reg [
  iz 11 .mv [.t 3],
  kz 2 .mv [.t 11]])
 .ret)))
def Ks.q48 : List Nat := [0,1,4,5,6]
def Rs.q48 : List RV := [.tmp 4]
def Dl.q48 : List (List Nat) := [[]]
def Mc.q48_L0 : MC := (.seq (.seq (.reg [
  iz 7 .mv [.t 6],
  iz 8 .mv [.t 1],
  iz 9 (.len 1) [.t 8],
  iz 10 (.bin .lss) [.t 7,.t 9]])
 (.ite (.t 10)
  .skip
  (.exit 0)))
 (.seq (.blk 1 (.rgd [
  iz 13 .mv [.t 5],
  iz 14 .mv [.t 0],
  iz 15 (.bin .add) [.t 14,.c (.str [32])],
  iz 16 .mv [.t 1],
  iz 17 .mv [.t 6],
  iz 18 (.iadr 2) [.t 16,.t 17],
  iz 19 (.fadr 0) [.t 18],
  iz 20 (.ld 1 false) [.t 19],
  iz 21 (.bin .add) [.t 15,.t 20],
  iz 22 (.bin .add) [.t 21,.c (.str [32])],
  iz 23 .mv [.t 1],
  iz 24 .mv [.t 6],
  iz 25 (.iadr 2) [.t 23,.t 24],
  iz 26 (.fadr 1) [.t 25],
  iz 27 (.ld 1 false) [.t 26],
  iz 28 (.len 0) [.t 27],
  iz 29 (.call Fn.q38) [.t 28],
  iz 30 (.bin .add) [.t 22,.t 29],
  iz 31 (.bin .add) [.t 30,.c (.str [32])],
  iz 32 .mv [.t 1],
  iz 33 .mv [.t 6],
  iz 34 (.iadr 2) [.t 32,.t 33],
  iz 35 (.fadr 1) [.t 34],
  iz 36 (.ld 1 false) [.t 35],
  iz 37 (.call Fn.q63) [.t 36],
  iz 38 (.bin .add) [.t 31,.t 37],
  iz 39 (.bin .add) [.t 38,.c (.str [10])],
  iz 40 (.bin .add) [.t 13,.t 39],
  kz 5 .mv [.t 40]]))
 (.reg [
  iz 11 .mv [.t 6],
  iz 12 (.bin .add) [.t 11,.c (.int .i64 1)],
  kz 6 .mv [.t 12]])))
def Mc.q48 : MC := (.seq (.reg [
  kz 4 .mv [.c (.str [])]])
 (.seq (.reg [
  kz 5 .mv [.c (.str [])]])
 (.seq (.seq (.reg [
  kz 6 .mv [.c (.int .i64 0)]])
 (.blk 0 (.loop [] Mc.q48_L0)))
 (.seq (.reg [
  iz 41 .mv [.t 5],
  kz 4 .mv [.t 41]])
 .ret))))
def Ks.q35 : List Nat := [0,1,2,3,8,9,11]
def Rs.q35 : List RV := [.tmp 8,.tmp 9]
def Dl.q35 : List (List Nat) := []
def Mc.q35 : MC := (.seq (.reg [
  kz 8 .mv [.c (.str [])],
  kz 9 .mv [.c (.int .i64 0)]])
 (.seq (.seq (.reg [
  iz 12 .mv [.t 0],
  iz 13 (.call Fn.q58) [.t 12],
  iz 14 (.bin .neq) [.t 13,.c (.int .i64 0)]])
 (.ite (.t 14)
  (.seq (.reg [
   kz 8 .mv [.c (.str [])],
   kz 9 .mv [.c (.int .i64 2)]])
  .ret)
  .skip))
 (.seq (.seq (.reg [
  iz 16 .mv [.t 1],
  iz 17 (.call Fn.q47) [.t 16],
  iz 15 .mv [.t 17],
  iz 18 (.ext 0) [.t 15],
  iz 19 (.ext 1) [.t 15],
  iz 10 .mv [.t 18],
  kz 11 .mv [.t 19]])
 (.seq (.reg [
  iz 20 .mv [.t 11],
  iz 21 (.bin .neq) [.t 20,.c (.int .i64 0)]])
 (.ite (.t 21)
  (.seq (.reg [
   kz 8 .mv [.c (.str [])],
   kz 9 .mv [.c (.int .i64 4)]])
  .ret)
  .skip)))
 (.seq (.seq (.reg [
  iz 22 .mv [.t 2],
  iz 23 (.call Fn.q46) [.t 22],
  iz 24 (.bin .neq) [.t 23,.c (.int .i64 0)],
  iz 25 .mv [.t 24],
  ⟨some (25,false),some 26,false,.mv,[.t 3]⟩,
  ⟨some (25,false),some 27,false,.call Fn.q46,[.t 26]⟩,
  ⟨some (25,false),some 28,false,.bin .neq,[.t 27,.c (.int .i64 0)]⟩,
  iz 29 .pick [.t 25,.c (.bool true),.t 28]])
 (.ite (.t 29)
  (.seq (.reg [
   kz 8 .mv [.c (.str [])],
   kz 9 .mv [.c (.int .i64 1)]])
  .ret)
  .skip))
 (.seq (.reg [
  iz 30 .mv [.t 0],
  iz 31 (.bin .add) [.c (.str [111,117,116,112,117,116,32]),.t 30],
  iz 32 (.bin .add) [.t 31,.c (.str [10,98,105,110,97,114,121,32])],
  iz 33 .mv [.t 1],
  iz 34 (.bin .add) [.t 32,.t 33],
  iz 35 (.bin .add) [.t 34,.c (.str [10])],
  iz 36 .mv [.t 2],
  iz 37 (.call Fn.q48) [.c (.str [112,97,112,101,114]),.t 36],
  iz 38 (.bin .add) [.t 35,.t 37],
  iz 39 .mv [.t 3],
  iz 40 (.call Fn.q48) [.c (.str [115,111,117,114,99,101]),.t 39],
  iz 41 (.bin .add) [.t 38,.t 40],
  kz 8 .mv [.t 41],
  kz 9 .mv [.c (.int .i64 0)]])
 .ret)))))
def Ks.q37 : List Nat := [0,2,3]
def Rs.q37 : List RV := [.tmp 2]
def Dl.q37 : List (List Nat) := []
def Mc.q37 : MC := (.seq (.reg [
  kz 2 .mv [.c (.str [])]])
 (.seq (.reg [
  iz 6 .mv [.t 0],
  iz 7 (.call Fn.digest_Sum) [.t 6],
  iz 8 (.call Fn.digest_Hex) [.t 7],
  iz 5 .mv [.t 8],
  iz 9 (.ext 0) [.t 5],
  iz 10 (.ext 1) [.t 5],
  kz 3 .mv [.t 9],
  iz 4 .mv [.t 10]])
 (.seq (.reg [
  iz 11 .mv [.t 3],
  kz 2 .mv [.t 11]])
 .ret)))
def Ks.q69 : List Nat := [0,1,2,3,4]
def Rs.q69 : List RV := [.tmp 4]
def Dl.q69 : List (List Nat) := []
def Mc.q69 : MC := (.seq (.reg [
  kz 2 .box [.t 0],
  kz 3 .box [.t 1],
  kz 4 .mv [.c (.nilf)]])
 (.seq (.reg [
  iz 5 (.mkfn Fn.q61) [.t 2,.t 3],
  kz 4 .mv [.t 5]])
 .ret))
def Ks.q61 : List Nat := [0,1,2,5,7,8,9,10,19,20,21]
def Rs.q61 : List RV := []
def Dl.q61 : List (List Nat) := [[5,999999],[7,999999]]
def Mc.q61_L0 : MC := (.seq (.reg [
  iz 11 (.bin .lss) [.t 10,.t 9]])
 (.seq (.ite (.t 11)
  .skip
  (.exit 0))
 (.seq (.blk 1 (.seq (.reg [
  iz 12 (.iadr 2) [.t 8,.t 10],
  iz 13 (.ld 2 true) [.t 12],
  kz 5 (.alloc [.str [],.str []]) [],
  nz (.st 2) [.t 5,.t 13]])
 (.seq (.reg [
  iz 14 .mv [.t 0],
  iz 15 (.ld 2 true) [.t 5],
  iz 16 .callv [.t 14,.c (.str [112,97,112,101,114]),.t 15],
  iz 17 (.un .not) [.t 16]])
 (.ite (.t 17)
  .ret
  .skip))))
 (.reg [
  iz 18 (.bin .add) [.t 10,.c (.int .i64 1)],
  kz 10 .mv [.t 18]]))))
def Mc.q61_L1 : MC := (.seq (.reg [
  iz 22 (.bin .lss) [.t 21,.t 20]])
 (.seq (.ite (.t 22)
  .skip
  (.exit 2))
 (.seq (.blk 3 (.seq (.reg [
  iz 23 (.iadr 2) [.t 19,.t 21],
  iz 24 (.ld 2 true) [.t 23],
  kz 7 (.alloc [.str [],.str []]) [],
  nz (.st 2) [.t 7,.t 24]])
 (.seq (.reg [
  iz 25 .mv [.t 0],
  iz 26 (.ld 2 true) [.t 7],
  iz 27 .callv [.t 25,.c (.str [115,111,117,114,99,101]),.t 26],
  iz 28 (.un .not) [.t 27]])
 (.ite (.t 28)
  .ret
  .skip))))
 (.reg [
  iz 29 (.bin .add) [.t 21,.c (.int .i64 1)],
  kz 21 .mv [.t 29]]))))
def Mc.q61 : MC := (.seq (.seq (.reg [
  kz 8 (.ld 1 false) [.t 1],
  kz 9 (.len 1) [.t 8],
  kz 10 .mv [.c (.int .i64 0)]])
 (.blk 0 (.loop [5,999999] Mc.q61_L0)))
 (.seq (.reg [
  kz 19 (.ld 1 false) [.t 2],
  kz 20 (.len 1) [.t 19],
  kz 21 .mv [.c (.int .i64 0)]])
 (.blk 2 (.loop [7,999999] Mc.q61_L1))))
def Ks.q57 : List Nat := [0,1,2,3,8,9,11,12,13,14,44,45]
def Rs.q57 : List RV := [.tmp 8,.tmp 9]
def Dl.q57 : List (List Nat) := []
def Mc.q57_A0 : MC := (.seq (.reg [
  kz 13 .mv [.t 44]])
 (.reg [
  kz 14 (.alloc [.str [],.str []]) [],
  nz (.st 2) [.t 14,.t 45]]))
def Mc.q57_L0 : MC := (.blk 1 (.rgd [
  iz 46 (.ld 1 false) [.t 12],
  iz 47 .mv [.t 13],
  iz 48 (.bin .add) [.t 47,.c (.str [32])],
  iz 49 (.fadr 0) [.t 14],
  iz 50 (.ld 1 false) [.t 49],
  iz 51 (.bin .add) [.t 48,.t 50],
  iz 52 (.bin .add) [.t 51,.c (.str [32])],
  iz 53 (.fadr 1) [.t 14],
  iz 54 (.ld 1 false) [.t 53],
  iz 55 (.len 0) [.t 54],
  iz 56 (.call Fn.q75) [.t 55],
  iz 57 (.bin .add) [.t 52,.t 56],
  iz 58 (.bin .add) [.t 57,.c (.str [32])],
  iz 59 (.fadr 1) [.t 14],
  iz 60 (.ld 1 false) [.t 59],
  iz 61 (.call Fn.q37) [.t 60],
  iz 62 (.bin .add) [.t 58,.t 61],
  iz 63 (.bin .add) [.t 62,.c (.str [10])],
  iz 64 (.bin .add) [.t 46,.t 63],
  nz (.st 1) [.t 12,.t 64]]))
def Mc.q57 : MC := (.seq (.reg [
  kz 8 .mv [.c (.str [])],
  kz 9 .mv [.c (.int .i64 0)]])
 (.seq (.seq (.reg [
  iz 15 .mv [.t 0],
  iz 16 (.call Fn.tree_Path) [.t 15],
  iz 17 (.bin .neq) [.t 16,.c (.int .i64 0)]])
 (.ite (.t 17)
  (.seq (.reg [
   kz 8 .mv [.c (.str [])],
   kz 9 .mv [.c (.int .i64 2)]])
  .ret)
  .skip))
 (.seq (.seq (.reg [
  iz 19 .mv [.t 1],
  iz 20 (.call Fn.q74) [.t 19],
  iz 18 .mv [.t 20],
  iz 21 (.ext 0) [.t 18],
  iz 22 (.ext 1) [.t 18],
  iz 10 .mv [.t 21],
  kz 11 .mv [.t 22]])
 (.seq (.reg [
  iz 23 .mv [.t 11],
  iz 24 (.bin .neq) [.t 23,.c (.int .i64 0)]])
 (.ite (.t 24)
  (.seq (.reg [
   kz 8 .mv [.c (.str [])],
   kz 9 .mv [.c (.int .i64 4)]])
  .ret)
  .skip)))
 (.seq (.seq (.reg [
  iz 25 .mv [.t 2],
  iz 26 (.call Fn.tree_Check) [.t 25],
  iz 27 (.bin .neq) [.t 26,.c (.int .i64 0)],
  iz 28 .mv [.t 27],
  ⟨some (28,false),some 29,false,.mv,[.t 3]⟩,
  ⟨some (28,false),some 30,false,.call Fn.tree_Check,[.t 29]⟩,
  ⟨some (28,false),some 31,false,.bin .neq,[.t 30,.c (.int .i64 0)]⟩,
  iz 32 .pick [.t 28,.c (.bool true),.t 31]])
 (.ite (.t 32)
  (.seq (.reg [
   kz 8 .mv [.c (.str [])],
   kz 9 .mv [.c (.int .i64 1)]])
  .ret)
  .skip))
 (.seq (.reg [
  iz 33 .mv [.t 0],
  iz 34 (.bin .add) [.c (.str [111,117,116,112,117,116,32]),.t 33],
  iz 35 (.bin .add) [.t 34,.c (.str [10])],
  iz 36 (.bin .add) [.t 35,.c (.str [98,105,110,97,114,121])],
  iz 37 (.bin .add) [.t 36,.c (.str [32])],
  iz 38 .mv [.t 1],
  iz 39 (.bin .add) [.t 37,.t 38],
  iz 40 (.bin .add) [.t 39,.c (.str [10])],
  kz 12 (.alloc [.str []]) [],
  nz (.st 1) [.t 12,.t 40]])
 (.seq (.seq (.reg [
  iz 41 .mv [.t 2],
  iz 42 .mv [.t 3],
  iz 43 (.call Fn.q69) [.t 41,.t 42]])
 (.blk 0 (.rgf (.t 43) [44,45] Mc.q57_A0 Mc.q57_L0)))
 (.seq (.reg [
  iz 65 (.ld 1 false) [.t 12],
  kz 8 .mv [.t 65],
  kz 9 .mv [.c (.int .i64 0)]])
 .ret)))))))
def Ks.q19 : List Nat := [0,1,2,3,8,9,10,11,12,13,14,15]
def Rs.q19 : List RV := [.tmp 8]
def Dl.q19 : List (List Nat) := []
def Mc.q19 : MC := (.seq (.reg [
  kz 8 .mv [.c (.bool false)]])
 (.seq (.seq (.reg [
  iz 16 (.call Fn.q45) [],
  iz 17 (.un .not) [.t 16],
  iz 18 .mv [.t 17],
  ⟨some (18,false),some 19,false,.mv,[.t 0]⟩,
  ⟨some (18,false),some 20,false,.len 0,[.t 19]⟩,
  ⟨some (18,false),some 21,false,.bin .gtr,[.t 20,.c (.int .i64 200)]⟩,
  iz 22 .pick [.t 18,.c (.bool true),.t 21],
  iz 23 .mv [.t 22],
  ⟨some (23,false),some 24,false,.mv,[.t 1]⟩,
  ⟨some (23,false),some 25,false,.len 0,[.t 24]⟩,
  ⟨some (23,false),some 26,false,.bin .gtr,[.t 25,.c (.int .i64 200)]⟩,
  iz 27 .pick [.t 23,.c (.bool true),.t 26],
  iz 28 .mv [.t 27],
  ⟨some (28,false),some 29,false,.mv,[.t 2]⟩,
  ⟨some (28,false),some 30,false,.call Fn.q62,[.t 29,.c (.int .i64 24),.c (.int .i64 400)]⟩,
  ⟨some (28,false),some 31,false,.un .not,[.t 30]⟩,
  iz 32 .pick [.t 28,.c (.bool true),.t 31],
  iz 33 .mv [.t 32],
  ⟨some (33,false),some 34,false,.mv,[.t 3]⟩,
  ⟨some (33,false),some 35,false,.call Fn.q62,[.t 34,.c (.int .i64 24),.c (.int .i64 400)]⟩,
  ⟨some (33,false),some 36,false,.un .not,[.t 35]⟩,
  iz 37 .pick [.t 33,.c (.bool true),.t 36]])
 (.ite (.t 37)
  (.seq (.reg [
   iz 38 (.call Fn.q45) [],
   kz 8 .mv [.t 38]])
  .ret)
  .skip))
 (.seq (.reg [
  iz 40 .mv [.t 0],
  iz 41 .mv [.t 1],
  iz 42 .mv [.t 2],
  iz 43 .mv [.t 3],
  iz 44 (.call Fn.q57) [.t 40,.t 41,.t 42,.t 43],
  iz 39 .mv [.t 44],
  iz 45 (.ext 0) [.t 39],
  iz 46 (.ext 1) [.t 39],
  kz 9 .mv [.t 45],
  kz 10 .mv [.t 46]])
 (.seq (.reg [
  iz 48 .mv [.t 0],
  iz 49 .mv [.t 1],
  iz 50 .mv [.t 2],
  iz 51 .mv [.t 3],
  iz 52 (.call Fn.q35) [.t 48,.t 49,.t 50,.t 51],
  iz 47 .mv [.t 52],
  iz 53 (.ext 0) [.t 47],
  iz 54 (.ext 1) [.t 47],
  kz 11 .mv [.t 53],
  kz 12 .mv [.t 54]])
 (.seq (.seq (.reg [
  iz 55 .mv [.t 9],
  iz 56 .mv [.t 11],
  iz 57 (.bin .neq) [.t 55,.t 56],
  iz 58 .mv [.t 57],
  ⟨some (58,false),some 59,false,.mv,[.t 10]⟩,
  ⟨some (58,false),some 60,false,.mv,[.t 12]⟩,
  ⟨some (58,false),some 61,false,.bin .neq,[.t 59,.t 60]⟩,
  iz 62 .pick [.t 58,.c (.bool true),.t 61],
  iz 63 .mv [.t 62],
  ⟨some (63,false),some 64,false,.mv,[.t 10]⟩,
  ⟨some (63,false),some 65,false,.bin .neq,[.t 64,.c (.int .i64 0)]⟩,
  iz 66 .pick [.t 63,.c (.bool true),.t 65]])
 (.ite (.t 66)
  (.seq (.reg [
   iz 67 .mv [.t 9],
   iz 68 .mv [.t 11],
   iz 69 (.bin .eql) [.t 67,.t 68],
   iz 70 .mv [.t 69],
   ⟨some (70,true),some 71,false,.mv,[.t 10]⟩,
   ⟨some (70,true),some 72,false,.mv,[.t 12]⟩,
   ⟨some (70,true),some 73,false,.bin .eql,[.t 71,.t 72]⟩,
   iz 74 .pick [.t 70,.t 73,.c (.bool false)],
   kz 8 .mv [.t 74]])
  .ret)
  .skip))
 (.seq (.reg [
  iz 76 .mv [.t 9],
  iz 77 (.call Fn.bundle_Read) [.t 76],
  iz 75 .mv [.t 77],
  iz 78 (.ext 0) [.t 75],
  iz 79 (.ext 1) [.t 75],
  iz 80 (.ext 2) [.t 75],
  kz 13 .mv [.t 78],
  kz 14 .mv [.t 79],
  kz 15 .mv [.t 80]])
 (.seq (.reg [
  iz 81 .mv [.t 15],
  iz 82 (.bin .eql) [.t 81,.c (.int .i64 0)],
  iz 83 .mv [.t 82],
  ⟨some (83,true),some 84,false,.mv,[.t 13]⟩,
  ⟨some (83,true),some 85,false,.mv,[.t 0]⟩,
  ⟨some (83,true),some 86,false,.bin .eql,[.t 84,.t 85]⟩,
  iz 87 .pick [.t 83,.t 86,.c (.bool false)],
  iz 88 .mv [.t 87],
  ⟨some (88,true),some 89,false,.mv,[.t 14]⟩,
  ⟨some (88,true),some 90,false,.mv,[.t 1]⟩,
  ⟨some (88,true),some 91,false,.bin .eql,[.t 89,.t 90]⟩,
  iz 92 .pick [.t 88,.t 91,.c (.bool false)],
  kz 8 .mv [.t 92]])
 .ret)))))))
def Ks.q17 : List Nat := [0,1,4]
def Rs.q17 : List RV := [.tmp 4]
def Dl.q17 : List (List Nat) := []
def Ow.__strings_Builder__WriteByte : List Nat := [14,1000141]
def Mc.q17 : MC := (.seq (.reg [
  kz 4 .mv [.c (.nili)]])
 (.seq (.reg [
  iz 5 .mv [.t 0],
  iz 6 (.callg Fn.q18) [.t 5]])
 (.seq (.reg [
  iz 7 .mv [.t 0],
  iz 8 .mv [.t 0],
  iz 9 .nilck [.t 8],
  iz 10 (.fadr 1) [.t 9],
  iz 11 (.ld 1 false) [.t 10],
  iz 12 .mv [.t 1],
  iz 13 (.bsl false 1) [.t 12],
  iz 14 (.appT false 1 1 5) [.t 11,.t 13],
  iz 15 .nilck [.t 7],
  iz 16 (.fadr 1) [.t 15],
  nz (.st 1) [.t 16,.t 14]])
 (.seq (.reg [
  kz 4 .mv [.c (.nili)]])
 .ret))))
def Ks.q21 : List Nat := [0,2]
def Rs.q21 : List RV := [.tmp 2]
def Dl.q21 : List (List Nat) := []
def Mc.q21 : MC := (.seq (.reg [
  kz 2 .mv [.c (.str [])]])
 (.seq (.rgd [
  iz 3 .mv [.t 0],
  iz 4 .nilck [.t 3],
  iz 5 (.fadr 1) [.t 4],
  iz 6 (.ld 1 false) [.t 5],
  iz 7 .usd [.t 6],
  iz 8 .mv [.t 0],
  iz 9 .nilck [.t 8],
  iz 10 (.fadr 1) [.t 9],
  iz 11 (.ld 1 false) [.t 10],
  iz 12 (.len 1) [.t 11],
  iz 13 (.ustr 5) [.t 7,.t 12],
  kz 2 .mv [.t 13]])
 .ret))
def Ks.q78 : List Nat := [0,1]
def Rs.q78 : List RV := []
def Dl.q78 : List (List Nat) := []
def Ow.digest_Hex_1 : List Nat := [1000112]
def Mc.q78 : MC := (.reg [
  iz 3 .mv [.t 0],
  iz 4 .istr [.c (.str [48,49,50,51,52,53,54,55,56,57,97,98,99,100,101,102]),.t 3],
  iz 5 (.callg Fn.q17) [.t 1,.t 4]])
def Ks.digest_Hex : List Nat := [0,2,3,4,5,6]
def Rs.digest_Hex : List RV := [.tmp 2,.tmp 3]
def Dl.digest_Hex : List (List Nat) := [[]]
def Ow.digest_Hex : List Nat := [1000113]
def Mc.digest_Hex_L0 : MC := (.seq (.seq (.reg [
  iz 11 .mv [.t 6],
  iz 12 .mv [.t 0],
  iz 13 (.len 0) [.t 12],
  iz 14 (.bin .lss) [.t 11,.t 13]])
 (.ite (.t 14)
  .skip
  (.exit 0)))
 (.seq (.blk 1 (.seq (.reg [
  iz 17 .mv [.t 5],
  iz 18 .mv [.t 0],
  iz 19 .mv [.t 6],
  iz 20 .istr [.t 18,.t 19],
  iz 21 (.bin .shr) [.t 20,.c (.int .u64 4)],
  iz 22 .callv [.t 17,.t 21]])
 (.reg [
  iz 23 .mv [.t 5],
  iz 24 .mv [.t 0],
  iz 25 .mv [.t 6],
  iz 26 .istr [.t 24,.t 25],
  iz 27 (.bin .and) [.t 26,.c (.int .u8 15)],
  iz 28 .callv [.t 23,.t 27]])))
 (.reg [
  iz 15 .mv [.t 6],
  iz 16 (.bin .add) [.t 15,.c (.int .i64 1)],
  kz 6 .mv [.t 16]])))
def Mc.digest_Hex : MC := (.seq (.reg [
  kz 2 .mv [.c (.str [])],
  kz 3 .mv [.c (.int .i64 0)]])
 (.seq (.seq (.reg [
  iz 7 .mv [.t 0],
  iz 8 (.len 0) [.t 7],
  iz 9 (.bin .neq) [.t 8,.c (.int .i64 32)]])
 (.ite (.t 9)
  (.seq (.reg [
   kz 2 .mv [.c (.str [])],
   kz 3 .mv [.c (.int .i64 1)]])
  .ret)
  .skip))
 (.seq (.reg [
  kz 4 (.allocB 146 5) []])
 (.seq (.reg [
  iz 10 (.mkfn Fn.q78) [.t 4],
  kz 5 .mv [.t 10]])
 (.seq (.seq (.reg [
  kz 6 .mv [.c (.int .i64 0)]])
 (.blk 0 (.loop [] Mc.digest_Hex_L0)))
 (.seq (.reg [
  iz 29 (.callg Fn.q21) [.t 4],
  kz 2 .mv [.t 29],
  kz 3 .mv [.c (.int .i64 0)]])
 .ret))))))
end Go.Proofs.YtopiadllkglamaaGreatDoor
namespace Go.Proofs.YtopiadllkglamaaGreatDoor
open Go.RowKit Go.IntWalk
def inW (a : Int) : Prop := 0 ≤ a ∧ a < 18446744073709551616
theorem wU_in (a : Int) : inW (IntKind.u64.wrap a) := by
 unfold inW IntKind.wrap
 simp [IntKind.signed,IntKind.bits]
 exact ⟨Int.emod_nonneg _ (by decide),Int.emod_lt_of_pos _ (by decide)⟩
theorem yD3 {a : Int} (h : inW a) : IntKind.u64.wrap a = a := by
 unfold inW at h
 unfold IntKind.wrap
 simp [IntKind.signed,IntKind.bits]
 exact Int.emod_eq_of_lt h.1 h.2
theorem zV9 {a : Int} (h : inW a) : xo 0 a = a := by
 have e : (BitVec.ofInt 64 0 ^^^ BitVec.ofInt 64 a) = BitVec.ofInt 64 a := by simp
 unfold xo
 rw [e,BitVec.toNat_ofInt]
 have h2 : a % ((2 ^ 64 : Nat) : Int) = a := Int.emod_eq_of_lt h.1 h.2
 rw [h2,Int.toNat_of_nonneg h.1,yD3 h]
theorem xH8 (a b : Int) : inW (xo a b) := wU_in _
def sumR (st : List Int) : Nat → Nat → List Int → List Int
 | 0,_,cur => cur
 | n + 1,x,cur => sumR st n (x + 1) (cur.set x (xo (xo (xo (xo (st.getD x 0) (st.getD (x + 5) 0)) (st.getD (x + 10) 0)) (st.getD (x + 15) 0)) (st.getD (x + 20) 0)))
def yn1 (st : List Int) (d : Int) (x : Nat) : Nat → Nat → List Int → List Int
 | 0,_,cur => cur
 | n + 1,y,cur => yn1 st d x n (y + 1) (cur.set (y + 5 * ((2 * x + 3 * y) % 5)) (rotE (xo (st.getD (x + 5 * y) 0) d) (offsL.getD (x + 5 * y) 0)))
def movR (st sum : List Int) : Nat → Nat → List Int → List Int
 | 0,_,cur => cur
 | n + 1,x,cur => movR st sum n (x + 1) (yn1 st (xo (sum.getD ((x + 4) % 5) 0) (rotE (sum.getD ((x + 1) % 5) 0) 1)) x 5 0 cur)
def ym4 (mv : List Int) (x : Nat) : Nat → Nat → List Int → List Int
 | 0,_,cur => cur
 | n + 1,y,cur => ym4 mv x n (y + 1) (cur.set (x + 5 * y) (xo (mv.getD (x + 5 * y) 0) (an (nt (mv.getD ((x + 1) % 5 + 5 * y) 0)) (mv.getD ((x + 2) % 5 + 5 * y) 0))))
def outR (mv : List Int) : Nat → Nat → List Int → List Int
 | 0,_,cur => cur
 | n + 1,x,cur => outR mv n (x + 1) (ym4 mv x 5 0 cur)
def zq0 (st : List Int) (c : Int) : List Int :=
 let m := outR (movR st (sumR st 5 0 (List.replicate 5 0)) 5 0 (List.replicate 25 0)) 5 0 (List.replicate 25 0)
 m.set 0 (xo (m.getD 0 0) c)
theorem yK4 (st : List Int) : ∀ (n x : Nat) (cur : List Int),(sumR st n x cur).length = cur.length
 | 0,_,_ => rfl
 | n + 1,x,cur => by rw [sumR,yK4 st n]; simp
theorem zY4 (st : List Int) (d : Int) (x : Nat) : ∀ (n y : Nat) (cur : List Int),(yn1 st d x n y cur).length = cur.length
 | 0,_,_ => rfl
 | n + 1,y,cur => by rw [yn1,zY4 st d x n]; simp
theorem yM7 (st sum : List Int) : ∀ (n x : Nat) (cur : List Int),(movR st sum n x cur).length = cur.length
 | 0,_,_ => rfl
 | n + 1,x,cur => by rw [movR,yM7 st sum n,zY4]
theorem zY1 (mv : List Int) (x : Nat) : ∀ (n y : Nat) (cur : List Int),(ym4 mv x n y cur).length = cur.length
 | 0,_,_ => rfl
 | n + 1,y,cur => by rw [ym4,zY1 mv x n]; simp
theorem ym3 (mv : List Int) : ∀ (n x : Nat) (cur : List Int),(outR mv n x cur).length = cur.length
 | 0,_,_ => rfl
 | n + 1,x,cur => by rw [outR,ym3 mv n,zY1]
section
variable (a0 a1 a2 a3 a4 a5 a6 a7 a8 a9 a10 a11 a12 a13 a14 a15 a16 a17 a18 a19 a20 a21 a22 a23 a24 : Int)
theorem xI5 : sumR [a0,a1,a2,a3,a4,a5,a6,a7,a8,a9,a10,a11,a12,a13,a14,a15,a16,a17,a18,a19,a20,a21,a22,a23,a24] 5 0 (List.replicate 5 0) =
  [xo (xo (xo (xo a0 a5) a10) a15) a20,xo (xo (xo (xo a1 a6) a11) a16) a21,xo (xo (xo (xo a2 a7) a12) a17) a22,xo (xo (xo (xo a3 a8) a13) a18) a23,xo (xo (xo (xo a4 a9) a14) a19) a24] := by kernel_rfl
theorem xt2 : zB9 (List.replicate 5 0) 0 [a0,a1,a2,a3,a4,a5,a6,a7,a8,a9,a10,a11,a12,a13,a14,a15,a16,a17,a18,a19,a20,a21,a22,a23,a24] =
  [xo (xo (xo (xo (xo 0 a0) a5) a10) a15) a20,xo (xo (xo (xo (xo 0 a1) a6) a11) a16) a21,xo (xo (xo (xo (xo 0 a2) a7) a12) a17) a22,xo (xo (xo (xo (xo 0 a3) a8) a13) a18) a23,xo (xo (xo (xo (xo 0 a4) a9) a14) a19) a24] := by kernel_rfl
end
def yk8 (z : List Int) : List (Nat × Int) → List Int
 | [] => z
 | p :: r => yk8 (z.set p.1 p.2) r
def rowO : List Nat := [0,1,2,3,4,5,6,7,8,9,10,11,12,13,14,15,16,17,18,19,20,21,22,23,24]
def colO : List Nat := [0,5,10,15,20,1,6,11,16,21,2,7,12,17,22,3,8,13,18,23,4,9,14,19,24]
def piN (i : Nat) : Nat := i / 5 + 5 * ((2 * (i % 5) + 3 * (i / 5)) % 5)
theorem xJ0 (V : Nat → Int) : yk8 (List.replicate 25 0) (colO.map fun i => (piN i,V i)) = yk8 (List.replicate 25 0) (rowO.map fun i => (piN i,V i)) := by kernel_rfl
theorem xu0 (V : Nat → Int) : yk8 (List.replicate 25 0) (colO.map fun i => (i,V i)) = rowO.map V := by kernel_rfl
theorem xt9 (V : Nat → Int) (b0 b1 b2 b3 b4 b5 b6 b7 b8 b9 b10 b11 b12 b13 b14 b15 b16 b17 b18 b19 b20 b21 b22 b23 b24 : Int) : yk8 [b0,b1,b2,b3,b4,b5,b6,b7,b8,b9,b10,b11,b12,b13,b14,b15,b16,b17,b18,b19,b20,b21,b22,b23,b24] (rowO.map fun i => (i,V i)) = rowO.map V := by kernel_rfl
theorem xe5 (st : List Int) (h : st.length = 25) : ∃ a0 a1 a2 a3 a4 a5 a6 a7 a8 a9 a10 a11 a12 a13 a14 a15 a16 a17 a18 a19 a20 a21 a22 a23 a24 : Int,st = [a0,a1,a2,a3,a4,a5,a6,a7,a8,a9,a10,a11,a12,a13,a14,a15,a16,a17,a18,a19,a20,a21,a22,a23,a24] := by
 match st,h with
 | [a0,a1,a2,a3,a4,a5,a6,a7,a8,a9,a10,a11,a12,a13,a14,a15,a16,a17,a18,a19,a20,a21,a22,a23,a24],_ => exact ⟨_,_,_,_,_,_,_,_,_,_,_,_,_,_,_,_,_,_,_,_,_,_,_,_,_,rfl⟩
def movV (st cs : List Int) (i : Nat) : Int := rotE (xo (st.getD i 0) (xo (cs.getD ((i % 5 + 4) % 5) 0) (rotE (cs.getD ((i % 5 + 1) % 5) 0) 1))) (offsL.getD i 0)
def mixV (t : List Int) (i : Nat) : Int := xo (t.getD i 0) (an (nt (t.getD (i - i % 5 + (i + 1) % 5) 0)) (t.getD (i - i % 5 + (i + 2) % 5) 0))
theorem xw7 (st cs z : List Int) : movR st cs 5 0 z = yk8 z (colO.map fun i => (piN i,movV st cs i)) := by kernel_rfl
theorem xw0 (t z : List Int) : outR t 5 0 z = yk8 z (colO.map fun i => (i,mixV t i)) := by kernel_rfl
theorem xw9 (t z : List Int) : mixE t 25 0 z = yk8 z (rowO.map fun i => (i,mixV t i)) := by kernel_rfl
theorem yS3 : ∀ (st cs z : List Int),st.length = 25 → zt7 offsL cs z 0 st = yk8 z (rowO.map fun i => (piN i,movV st cs i)) := by
 intro st cs z h
 obtain ⟨a0,a1,a2,a3,a4,a5,a6,a7,a8,a9,a10,a11,a12,a13,a14,a15,a16,a17,a18,a19,a20,a21,a22,a23,a24,rfl⟩ := xe5 st h
 kernel_rfl
theorem xo2 {st : List Int} (hs : st.length = 25) (hin : ∀ a ∈ st,inW a) : sumR st 5 0 (List.replicate 5 0) = zB9 (List.replicate 5 0) 0 st := by
 obtain ⟨a0,a1,a2,a3,a4,a5,a6,a7,a8,a9,a10,a11,a12,a13,a14,a15,a16,a17,a18,a19,a20,a21,a22,a23,a24,rfl⟩ := xe5 st hs
 rw [xI5,xt2,zV9 (hin a0 (by simp)),zV9 (hin a1 (by simp)),zV9 (hin a2 (by simp)),zV9 (hin a3 (by simp)),zV9 (hin a4 (by simp))]
theorem yS4 {st cs : List Int} (hs : st.length = 25) : movR st cs 5 0 (List.replicate 25 0) = zt7 offsL cs (List.replicate 25 0) 0 st := by
 rw [xw7,yS3 st cs _ hs,xJ0]
theorem xx0 {t b : List Int} (hb : b.length = 25) : outR t 5 0 (List.replicate 25 0) = mixE t 25 0 b := by
 obtain ⟨b0,b1,b2,b3,b4,b5,b6,b7,b8,b9,b10,b11,b12,b13,b14,b15,b16,b17,b18,b19,b20,b21,b22,b23,b24,rfl⟩ := xe5 b hb
 rw [xw0,xw9,xu0,xt9]
theorem xu6 {st : List Int} (hs : st.length = 25) (hin : ∀ a ∈ st,inW a) (c : Int) : zq0 st c = zk1 st offsL c := by
 have h1 := xo2 hs hin
 have h2 := yS4 (cs := zB9 (List.replicate 5 0) 0 st) hs
 have h3 := xx0 (t := zt7 offsL (zB9 (List.replicate 5 0) 0 st) (List.replicate 25 0) 0 st) hs
 simp only [zq0,zk1]
 rw [h1,h2,h3]
theorem xd8 (t : List Int) : ∀ (n i : Nat) (cur : List Int),(∀ a ∈ cur,inW a) → ∀ a ∈ mixE t n i cur,inW a
 | 0,_,_,h => h
 | n + 1,i,cur,h => by
  rw [mixE]
  refine xd8 t n (i + 1) _ fun a ha => ?_
  rcases List.mem_or_eq_of_mem_set ha with ha | rfl
  ·exact h a ha
  ·exact xH8 _ _
theorem xb2 {st off : List Int} {c : Int} (hin : ∀ a ∈ st,inW a) : ∀ a ∈ zk1 st off c,inW a := by
 intro a ha
 simp only [zk1] at ha
 rcases List.mem_or_eq_of_mem_set ha with ha | rfl
 ·exact xd8 _ _ _ _ hin a ha
 ·exact xH8 _ _
theorem zX9 {f g : List Int → Int → List Int} {P : List Int → Prop} (h1 : ∀ st c,P st → f st c = g st c) (h2 : ∀ st c,P st → P (g st c)) : ∀ r st,P st → zl1 f st r = zl1 g st r ∧ P (zl1 g st r)
 | [],_,h => ⟨rfl,h⟩
 | c :: r,st,h => by
  have ih := zX9 h1 h2 r (g st c) (h2 st c h)
  simp only [zl1,h1 st c h]
  exact ih
def wd25 (st : List Int) : Prop := st.length = 25 ∧ ∀ a ∈ st,inW a
theorem yv7 (r st : List Int) (h : wd25 st) : zl1 zq0 st r = zl1 (fun st c => zk1 st offsL c) st r ∧ wd25 (zl1 (fun st c => zk1 st offsL c) st r) :=
 zX9 (P := wd25) (fun st c h => xu6 h.1 h.2 c) (fun st c h => ⟨by rw [zy7]; exact h.1,xb2 h.2⟩) r st h
theorem yJ0 : ∀ (bs st : List Int) (i : Nat),(∀ a ∈ st,inW a) → ∀ a ∈ absE st i bs,inW a
 | [],_,_,h => h
 | b :: bs,st,i,h => by
  rw [absE]
  refine yJ0 bs _ (i + 1) fun a ha => ?_
  rcases List.mem_or_eq_of_mem_set ha with ha | rfl
  ·exact h a ha
  ·exact xH8 _ _
def orB (a b : Int) : Int := IntKind.u8.wrap (BitVec.ofInt 8 a ||| BitVec.ofInt 8 b).toNat
@[simp] theorem bin_orB {a b : Int} : zc2 .or (.int .u8 a) (.int .u8 b) = some (.int .u8 (orB a b)) := rfl
def yD9 (st bs : List Int) : List Int := zl1 zq0 (absE st 0 (bs.take 136)) constL
def blkR : Nat → List Int → List Int → List Int
 | 0,st,_ => st
 | n + 1,st,bs => blkR n (yD9 st bs) (bs.drop 136)
def padN (n : Nat) : Nat := (136 - (n + 1) % 136) % 136
def pad0 (bs : List Int) : List Int := bs ++ 6 :: List.replicate (padN bs.length) 0
def padE (bs : List Int) : List Int := (pad0 bs).set ((pad0 bs).length - 1) (orB ((pad0 bs).getD ((pad0 bs).length - 1) 0) 128)
def rsum (d : Bs) : Bs := strI (outE (blkR ((padE (zb4 d)).length / 136) zs25 (padE (zb4 d))) 32 0 (List.replicate 32 0))
theorem ym2 (bs : List Int) : (pad0 bs).length = bs.length + 1 + padN bs.length := by simp [pad0]; omega
theorem yM2 (n : Nat) : (n + 1 + padN n) % 136 = 0 := by unfold padN; omega
theorem xc6 {n : Nat} (h : 136 ≤ n) : padN n = padN (n - 136) := by unfold padN; omega
theorem yf3 {n : Nat} (h : n < 136) : padN n = 135 - n := by unfold padN; omega
theorem yf4 {bs : List Int} (h : bs.length < 136) : pad0 bs = zt2 bs := by
 unfold pad0 zt2
 rw [yf3 h]
 obtain ⟨k,hk⟩ : ∃ k,136 - bs.length = k + 1 := ⟨135 - bs.length,by omega⟩
 rw [hk,show 135 - bs.length = k by omega,List.replicate_succ]
 rw [List.set_append_right _ _ (Nat.le_refl _),Nat.sub_self]
 rfl
theorem xc8 {bs : List Int} (h : 136 ≤ bs.length) : pad0 bs = bs.take 136 ++ pad0 (bs.drop 136) := by
 unfold pad0
 rw [xc6 h,List.length_drop,← List.append_assoc,List.take_append_drop]
theorem or_xo {a : Int} (h : a = 0 ∨ a = 6) : orB a 128 = xoB a 128 := by rcases h with rfl | rfl <;> decide +kernel
theorem yU5 {bs : List Int} (h : bs.length < 136) : padE bs = zM3 bs := by
 have hl := zP4 h
 unfold padE zM3
 rw [yf4 h,hl]
 have hv : (zt2 bs).getD 135 0 = 0 ∨ (zt2 bs).getD 135 0 = 6 := by
  rw [← yf4 h]
  unfold pad0
  rw [yf3 h,List.getD_eq_getElem?_getD]
  by_cases e : bs.length = 135
  ·right; rw [List.getElem?_append_right (by omega)]; simp [e]
  ·left
   rw [List.getElem?_append_right (by omega)]
   obtain ⟨k,hk⟩ : ∃ k,135 - bs.length = k + 1 := ⟨134 - bs.length,by omega⟩
   rw [hk,List.getElem?_cons_succ,List.getElem?_replicate]
   simp
 show (zt2 bs).set 135 (orB ((zt2 bs).getD 135 0) 128) = _
 rw [or_xo hv]
theorem xc7 {bs : List Int} (h : 136 ≤ bs.length) : padE bs = bs.take 136 ++ padE (bs.drop 136) := by
 have hl : (pad0 (bs.drop 136)).length ≠ 0 := by rw [ym2]; omega
 have ht : (bs.take 136).length = 136 := by simp; omega
 unfold padE
 rw [xc8 h,List.length_append,ht]
 have e : 136 + (pad0 (bs.drop 136)).length - 1 = 136 + ((pad0 (bs.drop 136)).length - 1) := by omega
 rw [e,List.set_append_right _ _ (by omega),ht,Nat.add_sub_cancel_left]
 congr 2
 rw [List.getD_eq_getElem?_getD,List.getElem?_append_right (by omega),ht,Nat.add_sub_cancel_left,← List.getD_eq_getElem?_getD]
theorem xv9 (bs : List Int) : (padE bs).length = bs.length + 1 + padN bs.length := by unfold padE; rw [List.length_set,ym2]
theorem ys9 {st bs : List Int} (hs : st.length = 25) (hin : ∀ a ∈ st,inW a) : yD9 st bs = zs4 st bs := by
 unfold yD9 zs4
 exact (yv7 constL _ ⟨by rw [zr5]; exact hs,yJ0 _ _ _ hin⟩).1
theorem xt3 {st bs : List Int} (hs : st.length = 25) (hin : ∀ a ∈ st,inW a) : ∀ a ∈ zs4 st bs,inW a :=
 (yv7 constL _ ⟨by rw [zr5]; exact hs,yJ0 _ _ _ hin⟩).2.2
theorem yK8 : ∀ (N : Nat) (st bs : List Int) (os : List (List (List AV))),st.length = 25 → (∀ a ∈ st,inW a) → bs.length < 136 * (N + 1) →
  blkR ((padE bs).length / 136) st (padE bs) = zU4 (zk3 N st bs os).1 (zM3 (zk3 N st bs os).2.1)
 | N,st,bs,os,hs,hin,hb => by
  by_cases hc : bs.length < 136
  ·have e : zk3 N st bs os = (st,bs,os) := by cases N <;> simp [zk3,hc]
   rw [e,yU5 hc,zZ3 hc]
   show blkR 1 st (zM3 bs) = zU4 st (zM3 bs)
   simp only [blkR]
   rw [ys9 hs hin]
   unfold zs4 zU4
   rw [List.take_of_length_le (by rw [zZ3 hc]; omega)]
  ·match N,hb with
   | 0,hb => omega
   | N + 1,hb =>
    have ht : (bs.take 136).length = 136 := by simp; omega
    have e : zk3 (N + 1) st bs os = zk3 N (zs4 st bs) (bs.drop 136) (os ++ [za0 bs]) := by rw [zk3,if_neg hc]
    have ih := yK8 N (zs4 st bs) (bs.drop 136) (os ++ [za0 bs]) (by rw [zW6]; exact hs) (xt3 hs hin) (by simp; omega)
    rw [e,← ih,xc7 (by omega),List.length_append,ht]
    have hd : (136 + (padE (bs.drop 136)).length) / 136 = (padE (bs.drop 136)).length / 136 + 1 := by omega
    rw [hd]
    simp only [blkR]
    rw [List.drop_left' ht]
    have e2 : yD9 st (bs.take 136 ++ padE (bs.drop 136)) = zs4 st bs := by
     rw [ys9 hs hin]
     unfold zs4
     rw [List.take_left' ht]
    rw [e2]
theorem xH7 : ∀ a ∈ zs25,inW a := fun a ha => by
 have : a = 0 := by simpa [zs25] using ha
 subst this; exact ⟨by omega,by omega⟩
theorem yK3 (d : Bs) : rsum d = dsum d := by
 unfold rsum dsum outB
 rw [yK8 d.length zs25 (zb4 d) [] rfl xH7 (by simp [zb4]; omega)]
end Go.Proofs.YtopiadllkglamaaGreatDoor
namespace Go.Proofs.YtopiadllkglamaaGreatDoor
open Go.RowKit Go.IntWalk
theorem xJ2 : ∀ k : Fin 64,an (IntKind.u64.wrap (k.val : Int)) 63 = (k.val : Int) ∧ IntKind.u64.wrap (k.val : Int) = (k.val : Int) ∧ IntKind.i64.wrap (64 - (k.val : Int)) = 64 - (k.val : Int) ∧ IntKind.u64.wrap (64 - (k.val : Int)) = 64 - (k.val : Int) := by decide +kernel
def yj4 : List AV → Option AV := F2 (zo6 .u64) eInt (zo6 .u64) fun x k => if 0 ≤ k ∧ k < 64 then some (rotE x k) else none
theorem xJ3 {G : Gam} : ∀ args r,yj4 args = some r → wpM G Mc.q68 (zb0 Rs.q68 r) [] (za2 Ks.q68 args) [] := xs3 fun x k r h => by
 split at h
 ·rename_i hk
  injection h with h; subst h
  rw [zc8]
  obtain ⟨h1,h2,h3,h4⟩ := xJ2 ⟨k.toNat,by omega⟩
  simp only [Int.toNat_of_nonneg hk.1] at h1 h2 h3 h4
  have e : rotE x k = oo (sl x k) (sr x (64 - k)) := by unfold rotE; rw [h1,h4]
  rw [e]
  have b1 : zc2 .shl (.int .u64 x) (.int .u64 k) = some (.int .u64 (sl x k)) := yP7 hk.1
  have b2 : zc2 .shr (.int .u64 x) (.int .u64 (64 - k)) = some (.int .u64 (sr x (64 - k))) := yP6 (by omega)
  simp [Mc.q68,za2,Ks.q68,zo6,eInt,Rs.q68,h2,h3,h4,b1,b2]
 ·cases h
theorem yw1 {x y : Nat} (hx : x < 5) (hy : y < 5) : offsL[x + 5 * y]? = some (offsL.getD (x + 5 * y) 0) ∧ 0 ≤ offsL.getD (x + 5 * y) 0 ∧ offsL.getD (x + 5 * y) 0 < 64 := by
 have : ∀ i : Fin 25,offsL[i.val]? = some (offsL.getD i.val 0) ∧ 0 ≤ offsL.getD i.val 0 ∧ offsL.getD i.val 0 < 64 := by decide
 exact this ⟨x + 5 * y,by omega⟩
def yE7 (k : IntKind) (l : List Int) : List (List AV) := l.map fun n => [AV.int k n]
def zE7 : List AV → Option AV
 | [.int .i64 x,.int .i64 y] => if 0 ≤ x ∧ x < 5 ∧ 0 ≤ y ∧ y < 5 then some (.int .i64 (offsL.getD (x.toNat + 5 * y.toNat) 0)) else none
 | _ => none
theorem xy6 {h : Heap} {k : IntKind} {l : List Int} {i : Nat} {v : Int} (hv : l[i]? = some v) {k' : IntKind} : zc9 1 h (.sl (yE7 k l)) (.int k' i) = some (.fptr [.int k v] 0) := zD3 (by simp [yE7,hv]) rfl
theorem yy1 {h : Heap} {k : IntKind} {l : List Int} {i : Nat} {v : Int} (hv : l[i]? = some v) {k' : IntKind} : zc9 1 h (.tsl (yE7 k l)) (.int k' i) = some (.fptr [.int k v] 0) := by
 have := xy6 (h := h) (k := k) hv (k' := k')
 simpa [zc9] using this
theorem xw4 {G : Gam} : ∀ args r,zE7 args = some r → wpM G Mc.q44 (zb0 Rs.q44 r) [] (za2 Ks.q44 args) [] := by
 intro args r hF
 unfold zE7 at hF
 split at hF
 ·rename_i x y
  split at hF
  ·rename_i hc
   obtain ⟨x0,x5,y0,y5⟩ := hc
   injection hF with hF; subst hF
   obtain ⟨a,rfl⟩ : ∃ a : Nat,x = a := ⟨x.toNat,by omega⟩
   obtain ⟨b,rfl⟩ : ∃ b : Nat,y = b := ⟨y.toNat,by omega⟩
   simp only [Int.toNat_natCast]
   obtain ⟨g1,_,_⟩ := yw1 (x := a) (y := b) (by omega) (by omega)
   generalize hv : offsL.getD (a + 5 * b) 0 = v at g1 ⊢
   obtain ⟨p,hp⟩ : ∃ p : Nat,p = 5 * b := ⟨_,rfl⟩
   obtain ⟨q,hq⟩ : ∃ q : Nat,q = a + p := ⟨_,rfl⟩
   have w1 : IntKind.i64.wrap (5 * (b : Int)) = (p : Int) := by rw [zb6 (by omega) (by omega)]; omega
   have w2 : IntKind.i64.wrap ((a : Int) + (p : Int)) = (q : Int) := by rw [zb6 (by omega) (by omega)]; omega
   rw [show a + 5 * b = q by omega] at g1
   have m1 : zc2 .mul (.int .i64 5) (.int .i64 (b : Int)) = some (.int .i64 (p : Int)) := by simp only [zc2,zh3]; simp [w1]
   have hl : ∀ st h,opV G st h (.bsl false 1) (some [.int .i64 0,.int .i64 1,.int .i64 62,.int .i64 28,.int .i64 27,.int .i64 36,.int .i64 44,.int .i64 6,.int .i64 55,.int .i64 20,.int .i64 3,.int .i64 10,.int .i64 43,.int .i64 25,.int .i64 39,.int .i64 41,.int .i64 45,.int .i64 15,.int .i64 21,.int .i64 8,.int .i64 18,.int .i64 2,.int .i64 61,.int .i64 56,.int .i64 14]) = some (.tsl (yE7 .i64 offsL),h) := fun st h => by rw [zH3 rfl]; rfl
   have ia := fun h => yy1 (h := h) (k := .i64) (k' := .i64) g1
   rw [zc8]
   generalize yE7 .i64 offsL = R at hl ia
   simp [Mc.q44,za2,Ks.q44,hl,m1,w2,ia,cut,zd8,zb0,Rs.q44,-zH3]
  ·cases hF
 ·cases hF
def zN4 : List AV → Option AV
 | [.int .i64 i] => if 0 ≤ i ∧ i < 24 then some (.int .u64 (constL.getD i.toNat 0)) else none
 | _ => none
theorem yW5 {i : Nat} (hi : i < 24) : constL[i]? = some (constL.getD i 0) := by
 have : ∀ i : Fin 24,constL[i.val]? = some (constL.getD i.val 0) := by decide
 exact this ⟨i,hi⟩
theorem xo0 {G : Gam} : ∀ args r,zN4 args = some r → wpM G Mc.q36 (zb0 Rs.q36 r) [] (za2 Ks.q36 args) [] := by
 intro args r hF
 unfold zN4 at hF
 split at hF
 ·rename_i x
  split at hF
  ·rename_i hc
   injection hF with hF; subst hF
   obtain ⟨a,rfl⟩ : ∃ a : Nat,x = a := ⟨x.toNat,by omega⟩
   simp only [Int.toNat_natCast]
   have g1 := yW5 (i := a) (by omega)
   generalize constL.getD a 0 = v at g1 ⊢
   have hl : ∀ st h,opV G st h (.bsl false 1) (some [.int .u64 1,.int .u64 32898,.int .u64 9223372036854808714,.int .u64 9223372039002292224,.int .u64 32907,.int .u64 2147483649,.int .u64 9223372039002292353,.int .u64 9223372036854808585,.int .u64 138,.int .u64 136,.int .u64 2147516425,.int .u64 2147483658,.int .u64 2147516555,.int .u64 9223372036854775947,.int .u64 9223372036854808713,.int .u64 9223372036854808579,.int .u64 9223372036854808578,.int .u64 9223372036854775936,.int .u64 32778,.int .u64 9223372039002259466,.int .u64 9223372039002292353,.int .u64 9223372036854808704,.int .u64 2147483649,.int .u64 9223372039002292232]) = some (.tsl (yE7 .u64 constL),h) := fun st h => by rw [zH3 rfl]; rfl
   have ia := fun h => yy1 (h := h) (k := .u64) (k' := .i64) g1
   rw [zc8]
   generalize yE7 .u64 constL = R at hl ia
   simp [Mc.q36,za2,Ks.q36,hl,ia,cut,zd8,zb0,Rs.q36,-zH3]
  ·cases hF
 ·cases hF
abbrev rfr (st : List Int) (c : Int) (e6 e7 e8 e9 e10 e11 e12 e13 : AV) : List (Nat × AV) :=
 [(0,.agg (wd st)),(1,.int .u64 c),(2,.ptr 0 0),(4,.ptr 1 0),(5,.ptr 2 0),(6,e6),(7,e7),(8,e8),(9,e9),(10,e10),(11,e11),(12,e12),(13,e13)]
abbrev g3 (st z cs : List Int) : Heap := [.cells (wd st),.cells (wd z),.cells (wd cs)]
abbrev g4 (st z cs mv : List Int) : Heap := [.cells (wd st),.cells (wd z),.cells (wd cs),.cells (wd mv)]
abbrev g5 (st z cs mv o : List Int) : Heap := [.cells (wd st),.cells (wd z),.cells (wd cs),.cells (wd mv),.cells (wd o)]
theorem yv0 (G : Gam) (st z : List Int) (hs : st.length = 25) (c : Int) {ks : List MK} {Q : zc4} : ∀ (n x : Nat) (cs : List Int),n + x = 5 → cs.length = 5 →
  (∀ env,exM G .normal ks Q env (rfr st c (.int .i64 5) .junk .junk .junk .junk .junk .junk .junk) (g3 st z (sumR st n x cs))) →
  zi3 G [] Mc.q55_L0 3 (.blk 0 :: ks) Q (rfr st c (.int .i64 x) .junk .junk .junk .junk .junk .junk .junk) (g3 st z cs)
 | 0,x,cs,hn,hc,hk => by
  have e : x = 5 := by omega
  subst e
  refine zb3 (Mc.q55_L0.eq_1) ?_
  rw [za5 (n := 3) rfl]
  have := hk
  simp only [sumR] at this
  simp
  simpa using this _
 | n + 1,x,cs,hn,hc,hk => by
  have hi' : ltB x 5 = true := zb8.2 (by omega)
  have hw := zn1 (i := x) (by unfold big; omega)
  obtain ⟨p5,h5⟩ : ∃ p : Nat,p = x + 5 := ⟨_,rfl⟩
  obtain ⟨p10,h10⟩ : ∃ p : Nat,p = x + 10 := ⟨_,rfl⟩
  obtain ⟨p15,h15⟩ : ∃ p : Nat,p = x + 15 := ⟨_,rfl⟩
  obtain ⟨p20,h20⟩ : ∃ p : Nat,p = x + 20 := ⟨_,rfl⟩
  simp only [sumR,← h5,← h10,← h15,← h20] at hk
  have w5 : IntKind.i64.wrap ((x : Int) + 5) = (p5 : Int) := by rw [zb6 (by omega) (by omega)]; omega
  have w10 : IntKind.i64.wrap ((x : Int) + 10) = (p10 : Int) := by rw [zb6 (by omega) (by omega)]; omega
  have w15 : IntKind.i64.wrap ((x : Int) + 15) = (p15 : Int) := by rw [zb6 (by omega) (by omega)]; omega
  have w20 : IntKind.i64.wrap ((x : Int) + 20) = (p20 : Int) := by rw [zb6 (by omega) (by omega)]; omega
  have aa := fun (i : Nat) (hi : i < 25) st0 h => zh5 (G := G) (s := st0) (h := h) (len := 25) (size := 1) (l := 0) (off := 0) (i := i) (k := .i64) hi (by decide)
  have a0 := aa x (by omega)
  have a5 := aa p5 (by omega)
  have a10 := aa p10 (by omega)
  have a15 := aa p15 (by omega)
  have a20 := aa p20 (by omega)
  have ac := fun st0 h => zh5 (G := G) (s := st0) (h := h) (len := 5) (size := 1) (l := 2) (off := 0) (i := x) (k := .i64) (by omega) (by decide)
  have c0 := zn0 (zm5 (cs := st) (i := x) (by omega))
  have c5 := zn0 (zm5 (cs := st) (i := p5) (by omega))
  have c10 := zn0 (zm5 (cs := st) (i := p10) (by omega))
  have c15 := zn0 (zm5 (cs := st) (i := p15) (by omega))
  have c20 := zn0 (zm5 (cs := st) (i := p20) (by omega))
  have sc := fun v => zw8 (h := g3 st z cs) (l := 2) (off := x) (vs := wd cs) (k := .u64) (n := v) rfl (by simp; omega)
  simp only [zG9] at sc
  have ih := yv0 G st z hs c n (x + 1) _ (by omega) (by rw [List.length_set]; exact hc) hk
  generalize st.getD x 0 = v0 at c0 ih
  generalize st.getD p5 0 = v5 at c5 ih
  generalize st.getD p10 0 = v10 at c10 ih
  generalize st.getD p15 0 = v15 at c15 ih
  generalize st.getD p20 0 = v20 at c20 ih
  simp only [Nat.zero_add,Nat.mul_one,List.set] at a0 a5 a10 a15 a20 ac sc
  clear aa h5 h10 h15 h20
  refine zb3 (Mc.q55_L0.eq_1) ?_
  rw [za5 (n := 3) rfl]
  simp [hi',w5,w10,w15,w20,a0,a5,a10,a15,a20,ac,c0,c5,c10,c15,c20,sc,hw,-zd5]
  refine ze8 ?_
  rw [za5 (n := 3) rfl]
  simpa [rfr,g3,wd] using ih
theorem yL3 {G : Gam} (hR : G Fn.q68 = some (.pure yj4)) {a k : Int} (hk : 0 ≤ k ∧ k < 64) (st0 : Bool) (h : Heap) : opV G st0 h (.call Fn.q68) (some [.int .u64 a,.int .i64 k]) = some (.int .u64 (rotE a k),h) :=
 zb5 hR rfl (yj7 (A := zo6 .u64) (B := eInt) (R := zo6 .u64) (x := a) (y := k) (if_pos hk)) (.inl rfl)
theorem xw5 {G : Gam} (hO : G Fn.q44 = some (.pure zE7)) {x y : Nat} (hx : x < 5) (hy : y < 5) (st0 : Bool) (h : Heap) : opV G st0 h (.call Fn.q44) (some [.int .i64 x,.int .i64 y]) = some (.int .i64 (offsL.getD (x + 5 * y) 0),h) :=
 zb5 hO (us := [.int .i64 x,.int .i64 y]) rfl (by simp only [zE7,Int.toNat_natCast]; exact if_pos ⟨by omega,by omega,by omega,by omega⟩) (.inl rfl)
theorem yu8 (G : Gam) (hR : G Fn.q68 = some (.pure yj4)) (hO : G Fn.q44 = some (.pure zE7)) (st z cs : List Int) (hs : st.length = 25) (c d : Int) (x : Nat) (hx : x < 5) {ks : List MK} {Q : zc4} : ∀ (n y : Nat) (mv : List Int),n + y = 5 → mv.length = 25 →
  (∀ env,exM G .normal ks Q env (rfr st c (.int .i64 5) (.ptr 3 0) (.int .i64 x) (.int .u64 d) (.int .i64 5) .junk .junk .junk) (g4 st z cs (yn1 st d x n y mv))) →
  zi3 G [] Mc.q55_L2 4 (.blk 4 :: ks) Q (rfr st c (.int .i64 5) (.ptr 3 0) (.int .i64 x) (.int .u64 d) (.int .i64 y) .junk .junk .junk) (g4 st z cs mv)
 | 0,y,mv,hn,hc,hk => by
  have e : y = 5 := by omega
  subst e
  refine zb3 (Mc.q55_L2.eq_1) ?_
  rw [za5 (n := 4) rfl]
  have := hk
  simp only [yn1] at this
  simp
  simpa using this _
 | n + 1,y,mv,hn,hc,hk => by
  have hi' : ltB y 5 = true := zb8.2 (by omega)
  have hw := zn1 (i := y) (by unfold big; omega)
  obtain ⟨r,hre,hr5,hrz⟩ := rem5 (2 * x + 3 * y)
  obtain ⟨p,hp⟩ : ∃ p : Nat,p = y + 5 * r := ⟨_,rfl⟩
  obtain ⟨q,hq⟩ : ∃ q : Nat,q = x + 5 * y := ⟨_,rfl⟩
  obtain ⟨_,o1,o2⟩ := yw1 hx (show y < 5 by omega)
  simp only [yn1,← hre,← hp,← hq] at hk
  have cO := xw5 (G := G) hO hx (show y < 5 by omega)
  rw [← hq] at cO o1 o2
  have m2 : zc2 .mul (.int .i64 2) (.int .i64 (x : Int)) = some (.int .i64 ((2 * x : Nat) : Int)) := by simp only [zc2,zh3]; simp; rw [zb6 (by omega) (by omega)]
  have m3 : zc2 .mul (.int .i64 3) (.int .i64 (y : Int)) = some (.int .i64 ((3 * y : Nat) : Int)) := by simp only [zc2,zh3]; simp; rw [zb6 (by omega) (by omega)]
  have s1 : zc2 .add (.int .i64 ((2 * x : Nat) : Int)) (.int .i64 ((3 * y : Nat) : Int)) = some (.int .i64 ((2 * x + 3 * y : Nat) : Int)) := by rw [yt6,zb6 (by omega) (by omega)]; congr 2
  have m5 : zc2 .mul (.int .i64 5) (.int .i64 (r : Int)) = some (.int .i64 ((5 * r : Nat) : Int)) := by simp only [zc2,zh3]; simp; rw [zb6 (by omega) (by omega)]
  have s2 : zc2 .add (.int .i64 (y : Int)) (.int .i64 ((5 * r : Nat) : Int)) = some (.int .i64 (p : Int)) := by rw [yt6,zb6 (by omega) (by omega)]; congr 2; omega
  have m6 : zc2 .mul (.int .i64 5) (.int .i64 (y : Int)) = some (.int .i64 ((5 * y : Nat) : Int)) := by simp only [zc2,zh3]; simp; rw [zb6 (by omega) (by omega)]
  have s3 : zc2 .add (.int .i64 (x : Int)) (.int .i64 ((5 * y : Nat) : Int)) = some (.int .i64 (q : Int)) := by rw [yt6,zb6 (by omega) (by omega)]; congr 2; omega
  have a0 := fun st0 h => zh5 (G := G) (s := st0) (h := h) (len := 25) (size := 1) (l := 0) (off := 0) (i := q) (k := .i64) (by omega) (by decide)
  have a1 := fun st0 h => zh5 (G := G) (s := st0) (h := h) (len := 25) (size := 1) (l := 3) (off := 0) (i := p) (k := .i64) (by omega) (by decide)
  have c0 := zn0 (zm5 (cs := st) (i := q) (by omega))
  have sc := fun v => zw8 (h := g4 st z cs mv) (l := 3) (off := p) (vs := wd mv) (k := .u64) (n := v) rfl (by simp; omega)
  simp only [zG9] at sc
  have ih := yu8 G hR hO st z cs hs c d x hx n (y + 1) _ (by omega) (by rw [List.length_set]; exact hc) hk
  generalize st.getD q 0 = v0 at c0 ih
  generalize offsL.getD q 0 = vo at cO o1 o2 ih
  have cR := yL3 (G := G) hR (a := xo v0 d) (k := vo) ⟨o1,o2⟩
  simp only [Nat.zero_add,Nat.mul_one,List.set] at a0 a1 sc
  generalize hA : ((2 * x : Nat) : Int) = A at m2 s1
  generalize hB : ((3 * y : Nat) : Int) = B at m3 s1
  generalize hC : ((2 * x + 3 * y : Nat) : Int) = C at s1 hrz
  generalize hD : ((5 * r : Nat) : Int) = D at m5 s2
  generalize hE : ((5 * y : Nat) : Int) = E at m6 s3
  clear hA hB hC hD hE hp hq hre
  refine zb3 (Mc.q55_L2.eq_1) ?_
  rw [za5 (n := 4) rfl]
  simp [hi',m2,m3,s1,hrz,m5,s2,m6,s3,a0,a1,c0,cO,cR,sc,-yt6,-zd5]
  refine ze8 ?_
  rw [za5 (n := 4) rfl]
  simpa [rfr,g4,wd,hw] using ih
end Go.Proofs.YtopiadllkglamaaGreatDoor
namespace Go.Proofs.YtopiadllkglamaaGreatDoor
open Go.RowKit Go.IntWalk
theorem yu9 (G : Gam) (hR : G Fn.q68 = some (.pure yj4)) (hO : G Fn.q44 = some (.pure zE7)) (st z cs : List Int) (hs : st.length = 25) (hcs : cs.length = 5) (c : Int) {ks : List MK} {Q : zc4} : ∀ (n x : Nat) (mv : List Int) (e9 e10 : AV),n + x = 5 → mv.length = 25 →
  (∀ env,exM G .normal ks Q env (rfr st c (.int .i64 5) (.ptr 3 0) (.int .i64 5) .junk .junk .junk .junk .junk) (g4 st z cs (movR st cs n x mv))) →
  zi3 G [9,10] Mc.q55_L1 4 (.blk 2 :: ks) Q (rfr st c (.int .i64 5) (.ptr 3 0) (.int .i64 x) e9 e10 .junk .junk .junk) (g4 st z cs mv)
 | 0,x,mv,e9,e10,hn,hc,hk => by
  have e : x = 5 := by omega
  subst e
  refine zb3 (Mc.q55_L1.eq_1) ?_
  rw [za5 (n := 4) rfl]
  have := hk
  simp only [movR] at this
  simp
  simpa using this _
 | n + 1,x,mv,e9,e10,hn,hc,hk => by
  have hi' : ltB x 5 = true := zb8.2 (by omega)
  have hw := zn1 (i := x) (by unfold big; omega)
  obtain ⟨x4,hx4e,hx45,hr4⟩ := rem5 (x + 4)
  obtain ⟨x1,hx1e,hx15,hr1⟩ := rem5 (x + 1)
  simp only [movR,← hx4e,← hx1e] at hk
  have w1 : IntKind.i64.wrap ((x : Int) + 4) = ((x + 4 : Nat) : Int) := zb6 (by omega) (by omega)
  have w2 : IntKind.i64.wrap ((x : Int) + 1) = ((x + 1 : Nat) : Int) := zb6 (by omega) (by omega)
  have a1 := fun st0 h => zh5 (G := G) (s := st0) (h := h) (len := 5) (size := 1) (l := 2) (off := 0) (i := x4) (k := .i64) hx45 (by decide)
  have a2 := fun st0 h => zh5 (G := G) (s := st0) (h := h) (len := 5) (size := 1) (l := 2) (off := 0) (i := x1) (k := .i64) hx15 (by decide)
  have c1 := zn0 (zm5 (cs := cs) (i := x4) (by omega))
  have c2 := zn0 (zm5 (cs := cs) (i := x1) (by omega))
  have cR := fun a => yL3 (G := G) hR (a := a) (k := 1) ⟨by omega,by omega⟩
  have L2 := fun ks Q d hk => yu8 G hR hO st z cs hs c d x (by omega) (ks := ks) (Q := Q) 5 0 mv (by omega) hc hk
  have ih := fun d e9 e10 hk => yu9 G hR hO st z cs hs hcs c (ks := ks) (Q := Q) n (x + 1) (yn1 st d x 5 0 mv) e9 e10 (by omega) (by rw [zY4]; exact hc) hk
  generalize cs.getD x4 0 = v4 at c1 hk
  generalize cs.getD x1 0 = v1 at c2 hk
  have ih2 := fun e9 e10 => ih (xo v4 (rotE v1 1)) e9 e10 hk
  have L2' := fun ks Q => L2 ks Q (xo v4 (rotE v1 1))
  clear ih L2 hk
  generalize yn1 st (xo v4 (rotE v1 1)) x 5 0 mv = m2 at ih2 L2'
  simp only [Nat.zero_add,Nat.mul_one] at a1 a2
  generalize x + 4 = d3 at w1 hr4
  obtain ⟨d4,hd4⟩ : ∃ d : Nat,d = x + 1 := ⟨_,rfl⟩
  rw [← hd4] at w2 hr1 hw ih2
  refine zb3 (Mc.q55_L1.eq_1) ?_
  rw [za5 (n := 4) rfl]
  simp [hi',w1,w2,hr4,hr1,a1,a2,c1,c2,cR]
  refine L2' _ _ (fun env => ?_)
  simp [w2]
  refine ze8 ?_
  rw [za5 (n := 4) rfl]
  simpa [rfr,g4,wd] using ih2 .junk .junk
set_option maxHeartbeats 1000000 in
theorem yu6 (G : Gam) (st z cs mv : List Int) (hm : mv.length = 25) (c : Int) (x : Nat) (hx : x < 5) (e9 e10 : AV) {ks : List MK} {Q : zc4} : ∀ (n y : Nat) (cur : List Int),n + y = 5 → cur.length = 25 →
  (∀ env,exM G .normal ks Q env (rfr st c (.int .i64 5) (.ptr 3 0) (.int .i64 5) e9 e10 (.ptr 4 0) (.int .i64 x) (.int .i64 5)) (g5 st z cs mv (ym4 mv x n y cur))) →
  zi3 G [] Mc.q55_L4 5 (.blk 8 :: ks) Q (rfr st c (.int .i64 5) (.ptr 3 0) (.int .i64 5) e9 e10 (.ptr 4 0) (.int .i64 x) (.int .i64 y)) (g5 st z cs mv cur)
 | 0,y,cur,hn,hc,hk => by
  have e : y = 5 := by omega
  subst e
  refine zb3 (Mc.q55_L4.eq_1) ?_
  rw [za5 (n := 5) rfl]
  have := hk
  simp only [ym4] at this
  simp
  simpa using this _
 | n + 1,y,cur,hn,hc,hk => by
  have hi' : ltB y 5 = true := zb8.2 (by omega)
  have hw := zn1 (i := y) (by unfold big; omega)
  obtain ⟨x1,hx1e,hx15,hr1⟩ := rem5 (x + 1)
  obtain ⟨x2,hx2e,hx25,hr2⟩ := rem5 (x + 2)
  obtain ⟨q,hq⟩ : ∃ q : Nat,q = x + 5 * y := ⟨_,rfl⟩
  obtain ⟨q1,hq1⟩ : ∃ q : Nat,q = x1 + 5 * y := ⟨_,rfl⟩
  obtain ⟨q2,hq2⟩ : ∃ q : Nat,q = x2 + 5 * y := ⟨_,rfl⟩
  simp only [ym4,← hx1e,← hx2e,← hq,← hq1,← hq2] at hk
  have w1 : IntKind.i64.wrap ((x : Int) + 1) = ((x + 1 : Nat) : Int) := zb6 (by omega) (by omega)
  have w2 : IntKind.i64.wrap ((x : Int) + 2) = ((x + 2 : Nat) : Int) := zb6 (by omega) (by omega)
  obtain ⟨p5,hp5⟩ : ∃ p : Nat,p = 5 * y := ⟨_,rfl⟩
  have m6 : zc2 .mul (.int .i64 5) (.int .i64 (y : Int)) = some (.int .i64 (p5 : Int)) := by simp only [zc2,zh3]; simp; rw [zb6 (by omega) (by omega)]; omega
  have s1 : IntKind.i64.wrap ((x : Int) + (p5 : Int)) = (q : Int) := by rw [zb6 (by omega) (by omega)]; omega
  have s2 : IntKind.i64.wrap ((x1 : Int) + (p5 : Int)) = (q1 : Int) := by rw [zb6 (by omega) (by omega)]; omega
  have s3 : IntKind.i64.wrap ((x2 : Int) + (p5 : Int)) = (q2 : Int) := by rw [zb6 (by omega) (by omega)]; omega
  have a0 := fun st0 h => zh5 (G := G) (s := st0) (h := h) (len := 25) (size := 1) (l := 3) (off := 0) (i := q) (k := .i64) (by omega) (by decide)
  have a1 := fun st0 h => zh5 (G := G) (s := st0) (h := h) (len := 25) (size := 1) (l := 3) (off := 0) (i := q1) (k := .i64) (by omega) (by decide)
  have a2 := fun st0 h => zh5 (G := G) (s := st0) (h := h) (len := 25) (size := 1) (l := 3) (off := 0) (i := q2) (k := .i64) (by omega) (by decide)
  have a3 := fun st0 h => zh5 (G := G) (s := st0) (h := h) (len := 25) (size := 1) (l := 4) (off := 0) (i := q) (k := .i64) (by omega) (by decide)
  have c0 := zn0 (zm5 (cs := mv) (i := q) (by omega))
  have c1 := zn0 (zm5 (cs := mv) (i := q1) (by omega))
  have c2 := zn0 (zm5 (cs := mv) (i := q2) (by omega))
  have sc := fun v => zw8 (h := g5 st z cs mv cur) (l := 4) (off := q) (vs := wd cur) (k := .u64) (n := v) rfl (by simp; omega)
  simp only [zG9] at sc
  have ih := yu6 G st z cs mv hm c x hx e9 e10 n (y + 1) _ (by omega) (by rw [List.length_set]; exact hc) hk
  generalize mv.getD q 0 = v0 at c0 ih
  generalize mv.getD q1 0 = v1 at c1 ih
  generalize mv.getD q2 0 = v2 at c2 ih
  simp only [Nat.zero_add,Nat.mul_one,List.set] at a0 a1 a2 a3 sc
  generalize x + 1 = d1 at w1 hr1
  generalize x + 2 = d2 at w2 hr2
  clear hq hq1 hq2 hp5 hx1e hx2e
  refine zb3 (Mc.q55_L4.eq_1) ?_
  rw [za5 (n := 5) rfl]
  simp [hi',w1,w2,m6,s1,s2,s3,hr1,hr2,a0,a1,a2,a3,c0,c1,c2,sc,hw,xV8,-unAV,-zd5]
  refine ze8 ?_
  rw [za5 (n := 5) rfl]
  simpa [rfr,g5,wd] using ih
theorem yu7 (G : Gam) (st z cs mv : List Int) (hm : mv.length = 25) (c : Int) (e9 e10 : AV) {ks : List MK} {Q : zc4} : ∀ (n x : Nat) (cur : List Int) (e13 : AV),n + x = 5 → cur.length = 25 →
  (∀ env,exM G .normal ks Q env (rfr st c (.int .i64 5) (.ptr 3 0) (.int .i64 5) e9 e10 (.ptr 4 0) (.int .i64 5) .junk) (g5 st z cs mv (outR mv n x cur))) →
  zi3 G [13] Mc.q55_L3 5 (.blk 6 :: ks) Q (rfr st c (.int .i64 5) (.ptr 3 0) (.int .i64 5) e9 e10 (.ptr 4 0) (.int .i64 x) e13) (g5 st z cs mv cur)
 | 0,x,cur,e13,hn,hc,hk => by
  have e : x = 5 := by omega
  subst e
  refine zb3 (Mc.q55_L3.eq_1) ?_
  rw [za5 (n := 5) rfl]
  have := hk
  simp only [outR] at this
  simp
  simpa using this _
 | n + 1,x,cur,e13,hn,hc,hk => by
  have hi' : ltB x 5 = true := zb8.2 (by omega)
  have hw := zn1 (i := x) (by unfold big; omega)
  simp only [outR] at hk
  have L4 := fun ks Q hk => yu6 G st z cs mv hm c x (by omega) e9 e10 (ks := ks) (Q := Q) 5 0 cur (by omega) hc hk
  have ih := fun e13 => yu7 G st z cs mv hm c e9 e10 n (x + 1) (ym4 mv x 5 0 cur) e13 (by omega) (by rw [zY1]; exact hc) hk
  clear hk
  generalize ym4 mv x 5 0 cur = m2 at ih L4
  refine zb3 (Mc.q55_L3.eq_1) ?_
  rw [za5 (n := 5) rfl]
  simp [hi']
  refine L4 _ _ (fun env => ?_)
  simp [hw]
  refine ze8 ?_
  rw [za5 (n := 5) rfl]
  simpa [rfr,g5,wd] using ih .junk
def yq6 : List AV → Option AV := F2 (eAgg rW) (zo6 .u64) (eAgg rW) fun st c => if st.length = 25 then some (zq0 st c) else none
theorem ye7 (st : List Int) (c : Int) : (zq0 st c).length = 25 := by simp [zq0,ym3]
theorem xb1 {G : Gam} (hR : G Fn.q68 = some (.pure yj4)) (hO : G Fn.q44 = some (.pure zE7)) : ∀ args r,yq6 args = some r → wpM G Mc.q55 (zb0 Rs.q55 r) [] (za2 Ks.q55 args) [] := xs3 fun st c r h => by
 split at h
 ·rename_i hs
  injection h with h; subst h
  rw [zc8]
  simp only [yo3]
  obtain ⟨z,hz⟩ : ∃ z,z = List.replicate 25 (0 : Int) := ⟨_,rfl⟩
  obtain ⟨y,hy⟩ : ∃ y,y = List.replicate 5 (0 : Int) := ⟨_,rfl⟩
  have z25 : [AV.int .u64 0,.int .u64 0,.int .u64 0,.int .u64 0,.int .u64 0,.int .u64 0,.int .u64 0,.int .u64 0,.int .u64 0,.int .u64 0,.int .u64 0,.int .u64 0,.int .u64 0,.int .u64 0,.int .u64 0,.int .u64 0,.int .u64 0,.int .u64 0,.int .u64 0,.int .u64 0,.int .u64 0,.int .u64 0,.int .u64 0,.int .u64 0,.int .u64 0] = wd z := by rw [hz]; rfl
  have z5 : [AV.int .u64 0,.int .u64 0,.int .u64 0,.int .u64 0,.int .u64 0] = wd y := by rw [hy]; rfl
  have hzl : z.length = 25 := by rw [hz]; simp
  have hyl : y.length = 5 := by rw [hy]; simp
  have hr : zq0 st c = (outR (movR st (sumR st 5 0 y) 5 0 z) 5 0 z).set 0 (xo ((outR (movR st (sumR st 5 0 y) 5 0 z) 5 0 z).getD 0 0) c) := by simp only [zq0,← hz,← hy]
  rw [hr]
  clear hr
  have l0 := fun ks Q hk => yv0 G st z hs c (ks := ks) (Q := Q) 5 0 y (by omega) hyl hk
  have hcs : (sumR st 5 0 y).length = 5 := by rw [yK4]; exact hyl
  generalize sumR st 5 0 y = cs at l0 hcs ⊢
  have l1 := fun ks Q hk => yu9 G hR hO st z cs hs hcs c (ks := ks) (Q := Q) 5 0 z .junk .junk (by omega) hzl hk
  have hml : (movR st cs 5 0 z).length = 25 := by rw [yM7]; exact hzl
  generalize movR st cs 5 0 z = mv at l1 hml ⊢
  have l3 := fun ks Q hk => yu7 G st z cs mv hml c .junk .junk (ks := ks) (Q := Q) 5 0 z .junk (by omega) hzl hk
  have hol : (outR mv 5 0 z).length = 25 := by rw [ym3]; exact hzl
  generalize outR mv 5 0 z = m at l3 hol ⊢
  have c0 := zn0 (zm5 (cs := m) (i := 0) (by omega))
  have sc := fun v => zw8 (h := g5 st z cs mv m) (l := 4) (off := 0) (vs := wd m) (k := .u64) (n := v) rfl (by simp; omega)
  simp only [zG9] at sc
  have a0 : ∀ st0 h,opV G st0 h (.aadr 25 1) (some [.ptr 4 0,.int .i64 0]) = some (.ptr 4 0,h) := fun st0 h => by simpa using zh5 (G := G) (s := st0) (h := h) (len := 25) (size := 1) (l := 4) (off := 0) (i := 0) (k := .i64) (by omega) (by decide)
  generalize m.getD 0 0 = v0 at c0 sc ⊢
  obtain ⟨m2,hm2⟩ : ∃ m2,m2 = m.set 0 (xo v0 c) := ⟨_,rfl⟩
  have hm2l : m2.length = 25 := by rw [hm2]; simpa using hol
  have sc0 := sc (xo v0 c)
  rw [← hm2] at sc0 ⊢
  have sa := zC1 (h := g5 st z cs mv m2) (l := 1) (vs := wd z) (us := wd m2) rfl (by simpa using hzl) (by simpa using hm2l) (by omega) (zr0 (fun _ => rfl) m2)
  have b1 := fun st0 h => zM0 (G := G) (s := st0) (h := h) (v := .agg (wd st)) (by intro e; have := congrArg List.length e; simp [AV.cells,hs] at this)
  have k2 := zs2 (vs := wd m2) (n := 25) (by simpa using hm2l)
  have mk2 : zd8 true 25 (wd m2) = some (.agg (wd m2)) := by simp [zd8,hm2l]
  have cc1 : (AV.agg (wd st)).cells = wd st := rfl
  simp only [cc1] at b1
  simp only [List.set] at sc0 sa
  simp only [Mc.q55,z25]
  simp only [z5]
  simp [rfr,g3] at l0
  simp [rfr,g4] at l1
  simp [rfr,g5] at l3
  simp only [wd] at *
  simp [za2,Ks.q55,zo6,b1]
  refine l0 _ _ (fun env => ?_)
  simp
  refine l1 _ _ (fun env => ?_)
  simp
  refine l3 _ _ (fun env => ?_)
  simp [a0,c0,sc0,sa,k2,mk2,Rs.q55,-zd5]
 ·cases h
def zR1 : List AV → Option AV := F1 (eAgg rW) (eAgg rW) fun st => if st.length = 25 then some (zl1 zq0 st constL) else none
abbrev pfr (st0 : List Int) (i : AV) : List (Nat × AV) := [(0,.agg (wd st0)),(1,.ptr 0 0),(2,.ptr 1 0),(3,i)]
abbrev ph (st z : List Int) : Heap := [.cells (wd st),.cells (wd z)]
theorem yM0 (G : Gam) (f : List Int → Int → List Int) (hf : ∀ st c,(f st c).length = 25) (hR : ∀ st c,st.length = 25 → ∀ st0 h,opV G st0 h (.call Fn.q55) (some [.agg (wd st),.int .u64 c]) = some (.agg (wd (f st c)),h)) (con : List Int) (hcl : con.length = 24) (hC : ∀ (i : Nat) c,con[i]? = some c → ∀ st0 h,opV G st0 h (.call Fn.q36) (some [.int .i64 i]) = some (.int .u64 c,h)) (st0 z : List Int) {ks : List MK} {Q : zc4} : ∀ (rest : List Int) (i : Nat) (st : List Int),con.drop i = rest → i ≤ 24 → st.length = 25 →
  (∀ env,exM G .normal ks Q env (pfr st0 (.int .i64 24)) (ph (zl1 f st rest) z)) →
  zi3 G [] Mc.q39_L0 2 (.blk 0 :: ks) Q (pfr st0 (.int .i64 i)) (ph st z)
 | [],i,st,hd,hi,hs,hk => by
  have hi2 := zh4 hd
  have e : i = 24 := by omega
  subst e
  refine zb3 (Mc.q39_L0.eq_1) ?_
  rw [za5 (n := 2) rfl]
  have := hk
  simp only [zl1] at this
  simp
  simpa using this _
 | c :: rest,i,st,hd,hi,hs,hk => by
  obtain ⟨hi2,hx,hxd⟩ := zf0 hd
  have hlt : i < 24 := by omega
  have hi' : ltB i 24 = true := zb8.2 (by omega)
  have hw := zn1 (i := i) (by unfold big; omega)
  have cR := hR st c hs
  have cC := hC i c hx
  have hrl := hf st c
  simp only [zl1] at hk
  have ih := yM0 G f hf hR con hcl hC st0 z rest (i + 1) (f st c) hxd (by omega) hrl hk
  have k1 := zs2 (vs := wd st) (n := 25) (by simpa using hs)
  have mk1 : zd8 true 25 (wd st) = some (.agg (wd st)) := by simp [zd8,hs]
  generalize f st c = r at cR hrl ih
  have sa := zC1 (h := ph st z) (l := 0) (vs := wd st) (us := wd r) rfl (by simpa using hs) (by simpa using hrl) (by omega) (zr0 (fun _ => rfl) r)
  simp only [List.set] at sa
  refine zb3 (Mc.q39_L0.eq_1) ?_
  rw [za5 (n := 2) rfl]
  simp [hi',k1,mk1,cR,cC,sa,hw,-zd5]
  refine ze8 ?_
  rw [za5 (n := 2) rfl]
  simpa [pfr] using ih
theorem yU3 {G : Gam} (f : List Int → Int → List Int) (hf : ∀ st c,(f st c).length = 25) (cR : ∀ st c,st.length = 25 → ∀ st0 h,opV G st0 h (.call Fn.q55) (some [.agg (wd st),.int .u64 c]) = some (.agg (wd (f st c)),h)) (con : List Int) (hcl : con.length = 24) (cC : ∀ (i : Nat) c,con[i]? = some c → ∀ st0 h,opV G st0 h (.call Fn.q36) (some [.int .i64 i]) = some (.int .u64 c,h)) (st : List Int) (hs : st.length = 25) :
  goM G Mc.q39 [] (zb0 Rs.q39 (.agg (wd (zl1 f st con)))) [] (za2 Ks.q39 [.agg (wd st)]) [] := by
 obtain ⟨z,hz⟩ : ∃ z,z = List.replicate 25 (0 : Int) := ⟨_,rfl⟩
 have z25 : [AV.int .u64 0,.int .u64 0,.int .u64 0,.int .u64 0,.int .u64 0,.int .u64 0,.int .u64 0,.int .u64 0,.int .u64 0,.int .u64 0,.int .u64 0,.int .u64 0,.int .u64 0,.int .u64 0,.int .u64 0,.int .u64 0,.int .u64 0,.int .u64 0,.int .u64 0,.int .u64 0,.int .u64 0,.int .u64 0,.int .u64 0,.int .u64 0,.int .u64 0] = wd z := by rw [hz]; rfl
 have hzl : z.length = 25 := by rw [hz]; simp
 have lp := fun ks Q hk => yM0 G f hf cR con hcl cC st z (ks := ks) (Q := Q) con 0 st rfl (by omega) hs hk
 have hpl : (zl1 f st con).length = 25 := by
  have : ∀ (r st : List Int),st.length = 25 → (zl1 f st r).length = 25 := by
   intro r
   induction r with
   | nil => intro st h; exact h
   | cons c r ih => intro st _; exact ih _ (hf st c)
  exact this con st hs
 generalize zl1 f st con = m at lp hpl ⊢
 have sa := zC1 (h := ph m z) (l := 1) (vs := wd z) (us := wd m) rfl (by simpa using hzl) (by simpa using hpl) (by omega) (zr0 (fun _ => rfl) m)
 have b1 := fun st0 h => zM0 (G := G) (s := st0) (h := h) (v := .agg (wd st)) (by intro e; have := congrArg List.length e; simp [AV.cells,hs] at this)
 have k2 := zs2 (vs := wd m) (n := 25) (by simpa using hpl)
 have mk2 : zd8 true 25 (wd m) = some (.agg (wd m)) := by simp [zd8,hpl]
 have cc1 : (AV.agg (wd st)).cells = wd st := rfl
 simp only [cc1] at b1
 simp only [List.set] at sa
 simp only [Mc.q39,z25]
 simp [pfr,ph] at lp
 simp only [wd] at *
 simp [za2,Ks.q39,b1]
 refine lp _ _ (fun env => ?_)
 simp [sa,k2,mk2,Rs.q39,-zd5]
theorem xv7 {G : Gam} (hR : G Fn.q55 = some (.pure yq6)) (hC : G Fn.q36 = some (.pure zN4)) : ∀ args r,zR1 args = some r → wpM G Mc.q39 (zb0 Rs.q39 r) [] (za2 Ks.q39 args) [] := zU6 fun st r h => by
 split at h
 ·rename_i hs
  injection h with h; subst h
  rw [zc8]
  have cR : ∀ st c,st.length = 25 → ∀ st0 h,opV G st0 h (.call Fn.q55) (some [.agg (wd st),.int .u64 c]) = some (.agg (wd (zq0 st c)),h) := fun st c hs st0 h => by
   have hu := yj7 (A := eAgg rW) (B := zo6 .u64) (R := eAgg rW) (f := fun st c => if st.length = 25 then some (zq0 st c) else none) (x := st) (y := c) (r := zq0 st c) (if_pos hs)
   generalize zq0 st c = r at hu ⊢
   exact zb5 hR (us := [.agg (wd st),.int .u64 c]) (by simp) hu (.inr (by simp [owns,zm0]))
  have cC : ∀ (i : Nat) c,constL[i]? = some c → ∀ st0 h,opV G st0 h (.call Fn.q36) (some [.int .i64 i]) = some (.int .u64 c,h) := fun i c hc st0 h => by
   have hlt : i < 24 := by have := (List.getElem?_eq_some_iff.1 hc).1; have := zQ1; omega
   refine zb5 hC (us := [.int .i64 i]) rfl ?_ (.inl rfl)
   simp only [zN4,Int.toNat_natCast]
   rw [if_pos ⟨by omega,by omega⟩,List.getD_eq_getElem?_getD,hc]; rfl
  have hb := yU3 zq0 ye7 cR constL zQ1 cC st hs
  generalize zl1 zq0 st constL = m at hb ⊢
  simp only [yo3]
  exact hb
 ·cases h
end Go.Proofs.YtopiadllkglamaaGreatDoor
namespace Go.Proofs.YtopiadllkglamaaGreatDoor
open Go.RowKit Go.IntWalk
theorem xD6 (i : Nat) : ∃ x : Nat,x = i % 136 ∧ zc2 .rem (.int .i64 i) (.int .i64 136) = some (.int .i64 x) := by
 refine ⟨i % 136,rfl,?_⟩
 have e : ((i : Int).tmod 136) = ((i % 136 : Nat) : Int) := by rw [Int.tmod_eq_emod_of_nonneg (by omega)]; omega
 simp only [zc2,zh3]
 simp [e]
abbrev sfr (s : Bs) (v L : Nat) (e4 e5 e6 e7 e8 : AV) : List (Nat × AV) := [(0,.str s),(2,.str []),(3,.own 0 v L),(4,e4),(5,e5),(6,e6),(7,e7),(8,e8)]
theorem yZ3 (G : Gam) (s : Bs) (hb : s.length ≤ 100000000) {ks : List MK} {Q : zc4}
  (hk : ∀ env,exM G .normal ks Q env (sfr s (1 + padN s.length) (s.length + 1 + padN s.length) .junk .junk .junk .junk .junk) [.arr 1 (1 + padN s.length) (za0 (pad0 (zb4 s))) true]) :
  ∀ (m j : Nat),j + m = padN s.length → zi3 G [] Mc.q65_L0 1 (.blk 0 :: ks) Q (sfr s (1 + j) (s.length + 1 + j) .junk .junk .junk .junk .junk) [.arr 1 (1 + j) (za0 (zb4 s ++ 6 :: List.replicate j 0)) true]
 | 0,j,hj => by
  obtain rfl : j = padN s.length := by omega
  obtain ⟨x,hx,hr⟩ := xD6 (s.length + 1 + padN s.length)
  have h0 := yM2 s.length
  have e0 : x = 0 := by omega
  subst e0
  have hp : zb4 s ++ 6 :: List.replicate (padN s.length) 0 = pad0 (zb4 s) := by unfold pad0; rw [show (zb4 s).length = s.length by simp [zb4]]
  rw [hp]
  generalize s.length + 1 + padN s.length = L at hr hk ⊢
  have q : eqB ((0 : Nat) : Int) 0 = true := rfl
  refine zb3 (Mc.q65_L0.eq_1) ?_
  rw [za5 (n := 1) rfl]
  have ln : ∀ h,ze1 h 1 (.own 0 (1 + padN s.length) L) = some (.int .i64 (L : Int)) := fun h => rfl
  simp [ln,hr,-ze1]
  exact hk _
 | m + 1,j,hj => by
  obtain ⟨x,hx,hr⟩ := xD6 (s.length + 1 + j)
  have h0 : x ≠ 0 := by rw [hx]; unfold padN at hj; omega
  have q : eqB (x : Int) 0 = false := zj4.2 (by omega)
  have ih := yZ3 G s hb hk m (j + 1) (by omega)
  have hpl : padN s.length < 136 := by unfold padN; omega
  have hl : (za0 (zb4 s ++ 6 :: List.replicate j 0)).length = s.length + 1 + j := by simp [za0,zb4]; omega
  have hn : za0 (zb4 s ++ 6 :: List.replicate (j + 1) 0) = za0 (zb4 s ++ 6 :: List.replicate j 0) ++ [[.int .u8 0]] := by
   have : List.replicate (j + 1) (0 : Int) = List.replicate j 0 ++ [0] := by rw [← List.replicate_append_replicate]; rfl
   rw [this]; simp [za0]
  rw [hn,show s.length + 1 + (j + 1) = s.length + 1 + j + 1 by omega,show 1 + (j + 1) = 1 + j + 1 by omega] at ih
  have hL : s.length + 1 + j ≤ 1000000000 := by omega
  generalize s.length + 1 + j = L at hr hl ih hL ⊢
  generalize 1 + j = v at ih ⊢
  generalize za0 (zb4 s ++ 6 :: List.replicate j 0) = R at hl ih ⊢
  have ap := fun st => yM4 (G := G) (s := st) (h := [.arr 1 v R true]) (n := 1) (b := 1) (l := 0) (ver := v) (k := L) (x := .tsl [[.int .u8 0]]) (new := [[.int .u8 0]]) (rows := R) rfl rfl hl.symm rfl (by simp) (by simp [zb9]; omega) (by simp [zb9]; omega)
  simp only [List.length_singleton,List.set] at ap
  have ln : ∀ h,ze1 h 1 (.own 0 v L) = some (.int .i64 (L : Int)) := fun h => rfl
  have bs : ∀ st h,opV G st h (.bsl false 1) (some [.int .u8 0]) = some (.tsl [[.int .u8 0]],h) := fun st h => by rw [zH3 rfl]; rfl
  refine zb3 (Mc.q65_L0.eq_1) ?_
  rw [za5 (n := 1) rfl]
  simp [ln,hr,q,bs,ap,-ze1,-zH3]
  refine ze8 ?_
  rw [za5 (n := 1) rfl]
  simpa [sfr] using ih
theorem xO6 {P : List Int} {at_ i : Nat} {b : Int} (h : ((P.drop at_).take 136)[i]? = some b) : P[at_ + i]? = some b := by
 rw [List.getElem?_take] at h
 split at h
 ·rwa [List.getElem?_drop] at h
 ·cases h
theorem yZ1 (G : Gam) (s : Bs) (v L : Nat) (P : List Int) (hP : P.length = L) (hL : L ≤ 1000000000) (a : Nat) (ha : a + 136 ≤ L) (e7 e8 : AV) {ks : List MK} {Q : zc4} : ∀ (rest : List Int) (i : Nat) (st : List Int),((P.drop a).take 136).drop i = rest → i ≤ 136 → st.length = 25 →
  (∀ env,exM G .normal ks Q env (sfr s v L (.ptr 1 0) (.int .i64 a) (.int .i64 136) e7 e8) [.arr 1 v (za0 P) true,.cells (wd (absE st i rest))]) →
  zi3 G [] Mc.q65_L2 2 (.blk 4 :: ks) Q (sfr s v L (.ptr 1 0) (.int .i64 a) (.int .i64 i) e7 e8) [.arr 1 v (za0 P) true,.cells (wd st)]
 | [],i,st,hd,hi,hs,hk => by
  have hi2 := zh4 hd
  have hlen : ((P.drop a).take 136).length = 136 := by simp; omega
  have e : i = 136 := by omega
  subst e
  have := hk
  simp only [absE] at this
  have q : ltB 136 136 = false := rfl
  refine zb3 (Mc.q65_L2.eq_1) ?_
  rw [za5 (n := 2) rfl]
  simp
  simpa using this _
 | b :: rest,i,st,hd,hi,hs,hk => by
  obtain ⟨hi2,hx,hxd⟩ := zf0 hd
  have hlen : ((P.drop a).take 136).length = 136 := by simp; omega
  have hi' : ltB i 136 = true := zb8.2 (by omega)
  have hw := zn1 (i := i) (by unfold big; omega)
  obtain ⟨q,hqe,hq⟩ := quo8 (i := i) (by omega)
  obtain ⟨m,hme,hm8,hmm⟩ := rem8 i
  simp only [absE,← hqe,← hme] at hk
  have hb := xO6 hx
  obtain ⟨p,hp⟩ : ∃ p : Nat,p = a + i := ⟨_,rfl⟩
  rw [← hp] at hb
  have w0 : IntKind.i64.wrap ((a : Int) + (i : Int)) = (p : Int) := by rw [i64_in _ ⟨by omega,by omega⟩]; omega
  have m8 : zc2 .mul (.int .i64 8) (.int .i64 (m : Int)) = some (.int .i64 (8 * (m : Int))) := by simp only [zc2,zh3]; simp; rw [zb6 (by omega) (by omega)]
  have w1 : IntKind.u64.wrap (8 * (m : Int)) = 8 * (m : Int) := yD3 ⟨by omega,by omega⟩
  have bsh := yP7 (a := IntKind.u64.wrap b) (b := 8 * (m : Int)) (k := .u64) (by omega)
  have ia : ∀ h,zc9 1 (.arr 1 v (za0 P) true :: h) (.own 0 v L) (.int .i64 (p : Int)) = some (.eptr 0 v p 0) := fun h => zV0 (l := 0) rfl (by rw [byteRows_len,hP]) (row := [.int .u8 b]) (zk7 hb) rfl
  have ld : ∀ h,za8 1 false (.arr 1 v (za0 P) true :: h) (.eptr 0 v p 0) = some (.int .u8 b) := fun h => by rw [yn5 (l := 0) rfl (zk7 hb)]; rfl
  have aa := fun st0 h => zh5 (G := G) (s := st0) (h := h) (len := 25) (size := 1) (l := 1) (off := 0) (i := q) (k := .i64) (by omega) (by decide)
  have lc : ∀ B : Blk,za8 1 false [B,.cells (wd st)] (.ptr 1 q) = some (.int .u64 (st.getD q 0)) := fun B => zk9 (l := 1) rfl (zm5 (by omega))
  have sc := fun w => zw8 (h := [.arr 1 v (za0 P) true,.cells (wd st)]) (l := 1) (off := q) (vs := wd st) (k := .u64) (n := w) rfl (by simp; omega)
  simp only [zG9] at sc
  have ih := yZ1 G s v L P hP hL a ha e7 e8 rest (i + 1) _ hxd (by omega) (by rw [List.length_set]; exact hs) hk
  generalize st.getD q 0 = v0 at lc ih
  generalize za0 P = R at ia ld sc ih ⊢
  simp only [Nat.zero_add,Nat.mul_one,List.set] at aa sc
  have so : ∀ st0 w,opV G st0 [.arr 1 v R true,.cells (wd st)] (.st 1) (some [.ptr 1 q,.int .u64 w]) = some (.junk,[.arr 1 v R true,.cells (wd (st.set q w))]) := fun st0 w => by rw [yc3,sc]; rfl
  generalize sl (IntKind.u64.wrap b) (8 * (m : Int)) = z at bsh ih
  refine zb3 (Mc.q65_L2.eq_1) ?_
  rw [za5 (n := 2) rfl]
  simp [hi',hq,hmm,m8,w0,w1,ia,ld,aa,lc,bsh,so,hw,-yc3,-zd5,-za8]
  refine ze8 ?_
  rw [za5 (n := 2) rfl]
  simpa [sfr,wd] using ih
theorem yZ2 (G : Gam) (pm : List Int → List Int) (hPm : ∀ st,st.length = 25 → ∀ st0 h,opV G st0 h (.call Fn.q39) (some [.agg (wd st)]) = some (.agg (wd (pm st)),h)) (hpl : ∀ st,st.length = 25 → (pm st).length = 25) (hst : ∀ st bs,yD9 st bs = pm (absE st 0 (bs.take 136)))
  (s : Bs) (v L : Nat) (P : List Int) (hP : P.length = L) (hL : L ≤ 1000000000) {ks : List MK} {Q : zc4} : ∀ (n j : Nat) (st : List Int) (e6 : AV),(n + j) * 136 = L → st.length = 25 →
  (∀ env,exM G .normal ks Q env (sfr s v L (.ptr 1 0) (.int .i64 L) .junk .junk .junk) [.arr 1 v (za0 P) true,.cells (wd (blkR n st (P.drop (j * 136))))]) →
  zi3 G [6] Mc.q65_L1 2 (.blk 2 :: ks) Q (sfr s v L (.ptr 1 0) (.int .i64 ((j * 136 : Nat) : Int)) e6 .junk .junk) [.arr 1 v (za0 P) true,.cells (wd st)]
 | 0,j,st,e6,hn,hs,hk => by
  have e : j * 136 = L := by omega
  rw [e] at hk ⊢
  have := hk
  simp only [blkR] at this
  have ln : ∀ h,ze1 h 1 (.own 0 v L) = some (.int .i64 (L : Int)) := fun h => rfl
  have q : ltB (L : Int) (L : Int) = false := ze4.2 (by omega)
  refine zb3 (Mc.q65_L1.eq_1) ?_
  rw [za5 (n := 2) rfl]
  simp [ln,-ze1]
  exact this _
 | n + 1,j,st,e6,hn,hs,hk => by
  obtain ⟨a,ha⟩ : ∃ a : Nat,a = j * 136 := ⟨_,rfl⟩
  have haL : a + 136 ≤ L := by rw [ha]; omega
  have ln : ∀ h,ze1 h 1 (.own 0 v L) = some (.int .i64 (L : Int)) := fun h => rfl
  have q : ltB (a : Int) (L : Int) = true := zb8.2 (by omega)
  obtain ⟨a2,ha2⟩ : ∃ a2 : Nat,a2 = (j + 1) * 136 := ⟨_,rfl⟩
  have wa : IntKind.i64.wrap ((a : Int) + 136) = (a2 : Int) := by rw [i64_in _ ⟨by omega,by omega⟩]; omega
  have hal : (absE st 0 ((P.drop a).take 136)).length = 25 := by rw [zr5]; exact hs
  simp only [blkR] at hk
  rw [hst,← ha,List.drop_drop,show a + 136 = (j + 1) * 136 by omega] at hk
  have L2 := fun ks Q hk => yZ1 G s v L P hP hL a haL .junk .junk (ks := ks) (Q := Q) ((P.drop a).take 136) 0 st rfl (by omega) hs hk
  have ih := fun e6 => yZ2 G pm hPm hpl hst s v L P hP hL n (j + 1) (pm (absE st 0 ((P.drop a).take 136))) e6 (by omega) (hpl _ hal) hk
  rw [← ha2] at ih
  rw [← ha]
  clear hk
  generalize absE st 0 ((P.drop a).take 136) = ab at L2 hal ih
  have cP := hPm ab hal
  have hrl := hpl ab hal
  generalize pm ab = r at cP hrl ih
  have la : ∀ B : Blk,∀ st0,opV G st0 [B,.cells (wd ab)] (.ld 25 true) (some [.ptr 1 0]) = some (.agg (wd ab),[B,.cells (wd ab)]) := fun B st0 => by rw [xY1,xe9 (l := 1) (vs := wd ab) rfl (by simpa using hal)]; rfl
  have sa : ∀ B : Blk,∀ st0,opV G st0 [B,.cells (wd ab)] (.st 25) (some [.ptr 1 0,.agg (wd r)]) = some (.junk,[B,.cells (wd r)]) := fun B st0 => by rw [yc3,zC1 (l := 1) (vs := wd ab) (us := wd r) rfl (by simpa using hal) (by simpa using hrl) (by omega) (zr0 (fun _ => rfl) r)]; rfl
  generalize za0 P = R at L2 ih ⊢
  simp only [sfr] at L2 ih ⊢
  refine zb3 (Mc.q65_L1.eq_1) ?_
  rw [za5 (n := 2) rfl]
  simp [ln,q,-ze1]
  refine L2 _ _ (fun env => ?_)
  simp [la,cP,sa,wa,-xY1,-yc3]
  refine ze8 ?_
  rw [za5 (n := 2) rfl]
  simpa using ih _
theorem yZ0 (G : Gam) (s : Bs) (v L : Nat) (R : List (List AV)) (p : List Int) (hp : p.length = 25) (e5 : AV) {ks : List MK} {Q : zc4} : ∀ (k i : Nat) (o : List Int),i + k = 32 → o.length = 32 →
  (∀ env,exM G .normal ks Q env (sfr s v L (.ptr 1 0) e5 .junk (.own 2 0 32) (.int .i64 32)) [.arr 1 v R true,.cells (wd p),.arr 1 0 (za0 (outE p k i o)) true]) →
  zi3 G [] Mc.q65_L3 3 (.blk 6 :: ks) Q (sfr s v L (.ptr 1 0) e5 .junk (.own 2 0 32) (.int .i64 i)) [.arr 1 v R true,.cells (wd p),.arr 1 0 (za0 o) true]
 | 0,i,o,hi,ho,hk => by
  have e : i = 32 := by omega
  subst e
  have := hk
  simp only [outE] at this
  refine zb3 (Mc.q65_L3.eq_1) ?_
  rw [za5 (n := 3) rfl]
  simp
  simpa using this _
 | k + 1,i,o,hi,ho,hk => by
  have hlt : ltB i 32 = true := zb8.2 (by omega)
  have hw := zn1 (i := i) (by unfold big; omega)
  obtain ⟨q,hqe,hq⟩ := quo8 (i := i) (by omega)
  obtain ⟨m,hme,hm8,hmm⟩ := rem8 i
  simp only [outE,← hqe,← hme] at hk
  have m8 : zc2 .mul (.int .i64 8) (.int .i64 (m : Int)) = some (.int .i64 (8 * (m : Int))) := by simp only [zc2,zh3]; simp; rw [zb6 (by omega) (by omega)]
  have w1 : IntKind.u64.wrap (8 * (m : Int)) = 8 * (m : Int) := yD3 ⟨by omega,by omega⟩
  have aa := fun st0 h => zh5 (G := G) (s := st0) (h := h) (len := 25) (size := 1) (l := 1) (off := 0) (i := q) (k := .i64) (by omega) (by decide)
  have lc : ∀ A B : Blk,za8 1 false [A,.cells (wd p),B] (.ptr 1 q) = some (.int .u64 (p.getD q 0)) := fun A B => zk9 (l := 1) rfl (zm5 (by omega))
  have bsh := yP6 (a := p.getD q 0) (b := 8 * (m : Int)) (k := .u64) (by omega)
  have ih := yZ0 G s v L R p hp e5 k (i + 1) _ (by omega) (by rw [List.length_set]; exact ho) hk
  generalize p.getD q 0 = v0 at lc bsh ih
  generalize sr v0 (8 * (m : Int)) = z at bsh ih
  have at1 : zc9 1 [.arr 1 v R true,.cells (wd p),.arr 1 0 (za0 o) true] (.own 2 0 32) (.int .i64 (i : Int)) = some (.eptr 2 0 i 0) := xB4 (l := 2) (k := .i64) (i := i) (n := 32) rfl ho.symm (by omega)
  have st1 := xB3 (G := G) (st0 := false) (h := [.arr 1 v R true,.cells (wd p),.arr 1 0 (za0 o) true]) (l := 2) (i := i) (v := IntKind.u8.wrap z) rfl (by omega)
  simp only [Nat.zero_add,Nat.mul_one,List.set] at aa st1
  generalize za0 o = R2 at at1 st1 ⊢
  generalize za0 (o.set i (IntKind.u8.wrap z)) = R3 at st1 ih
  refine zb3 (Mc.q65_L3.eq_1) ?_
  rw [za5 (n := 3) rfl]
  simp [hlt,hq,hmm,m8,w1,aa,lc,bsh,at1,st1,hw,-zd5,-za8,-yc3]
  refine ze8 ?_
  rw [za5 (n := 3) rfl]
  simpa [sfr,wd] using ih
theorem yL9 {F : List Int → Int → List Int} (hF : ∀ st c,(F st c).length = 25) : ∀ (r st : List Int),st.length = 25 → (zl1 F st r).length = 25
 | [],st,h => h
 | c :: r,st,_ => by
  rw [zl1]
  exact yL9 hF r _ (hF st c)
theorem xc4 (pm : List Int → List Int) {st : List Int} (hs : st.length = 25) : F1 (eAgg rW) (eAgg rW) (fun st => if st.length = 25 then some (pm st) else none) [.agg (wd st)] = some (.agg (wd (pm st))) := zw5 (A := eAgg rW) (R := eAgg rW) (f := fun st => if st.length = 25 then some (pm st) else none) (x := st) (r := pm st) (if_pos hs)
def pmR (st : List Int) : List Int := zl1 zq0 st constL
theorem yK5 (st bs : List Int) : yD9 st bs = pmR (absE st 0 (bs.take 136)) := by unfold yD9 pmR; rfl
theorem xc0 {st : List Int} (h : st.length = 25) : (pmR st).length = 25 := by
 unfold pmR
 exact yL9 (F := zq0) ye7 constL st h
theorem yY4 : zR1 = F1 (eAgg rW) (eAgg rW) (fun st => if st.length = 25 then some (pmR st) else none) := by unfold zR1 pmR; rfl
theorem xv5 {G : Gam} {st : List Int} (hP : G Fn.q39 = some (.pure zR1)) (hs : st.length = 25) (st0 : Bool) (h : Heap) : opV G st0 h (.call Fn.q39) (some [.agg (wd st)]) = some (.agg (wd (pmR st)),h) := by
 have hu := xc4 pmR hs
 rw [← yY4] at hu
 generalize pmR st = r at hu ⊢
 exact zb5 hP (us := [.agg (wd st)]) (by simp) hu (.inr (by simp [owns,zm0]))
def yR1 : List AV → Option AV := F1 eStr eStr fun d => if d.length ≤ 100000000 then some (dsum d) else none
set_option maxHeartbeats 1000000 in
theorem xI6 {G : Gam} (hP : G Fn.q39 = some (.pure zR1)) : ∀ args r,yR1 args = some r → wpM G Mc.q65 (zb0 Rs.q65 r) [] (za2 Ks.q65 args) [] := zU6 fun s r h => by
 split at h
 ·rename_i hb
  injection h with h; subst h
  rw [zc8,← yK3]
  have hPm' := fun st hs => xv5 (G := G) (st := st) hP hs
  have hbl : (zb4 s).length = s.length := by simp [zb4]
  have hLb : s.length + 1 + padN s.length ≤ 1000000000 := by unfold padN; omega
  have hPl : (padE (zb4 s)).length = s.length + 1 + padN s.length := by rw [xv9,hbl]
  have hdiv := yM2 s.length
  obtain ⟨N,hN⟩ : ∃ N,(N + 0) * 136 = s.length + 1 + padN s.length := ⟨(s.length + 1 + padN s.length) / 136,by omega⟩
  have hN2 : (padE (zb4 s)).length / 136 = N := by rw [hPl]; omega
  have zl : zs25.length = 25 := rfl
  have hbk : (blkR N zs25 (padE (zb4 s))).length = 25 := by
   have : ∀ (n : Nat) (st bs : List Int),st.length = 25 → (blkR n st bs).length = 25 := by
    intro n
    induction n with
    | zero => intro st bs h; exact h
    | succ n ih => intro st bs h; simp only [blkR]; refine ih _ _ ?_; rw [yK5]; exact xc0 (by rw [zr5]; exact h)
   exact this N zs25 _ zl
  have l0 := fun ks Q hk => yZ3 G s hb (ks := ks) (Q := Q) hk (padN s.length) 0 (by omega)
  have l1 := fun v ks Q hk => yZ2 G pmR hPm' (fun _ h => xc0 h) yK5 s v (s.length + 1 + padN s.length) (padE (zb4 s)) hPl hLb (ks := ks) (Q := Q) N 0 zs25 .junk hN zl hk
  have l3 := fun v R e5 ks Q hk => yZ0 G s v (s.length + 1 + padN s.length) R (blkR N zs25 (padE (zb4 s))) hbk e5 (ks := ks) (Q := Q) 32 0 (List.replicate 32 0) (by omega) (by simp) hk
  unfold rsum
  rw [hN2]
  have hin := ym5 (blkR N zs25 (padE (zb4 s))) 32 0 (List.replicate 32 0) (fun n hn => by rw [List.eq_of_mem_replicate hn]; exact ⟨by omega,by omega⟩)
  have hol : (outE (blkR N zs25 (padE (zb4 s))) 32 0 (List.replicate 32 0)).length = 32 := by rw [zU7]; simp
  have h0l : (pad0 (zb4 s)).length = s.length + 1 + padN s.length := by rw [ym2,hbl]
  obtain ⟨V,hV⟩ : ∃ V,V = 1 + padN s.length := ⟨_,rfl⟩
  obtain ⟨L,hL⟩ : ∃ L,L = s.length + 1 + padN s.length := ⟨_,rfl⟩
  obtain ⟨M,hM⟩ : ∃ M,M = L - 1 := ⟨_,rfl⟩
  have hpE : padE (zb4 s) = (pad0 (zb4 s)).set M (orB ((pad0 (zb4 s)).getD M 0) 128) := by unfold padE; rw [h0l,← hL,← hM]
  rw [← hV,← hL] at l0
  rw [← hL] at l1 l3 hPl h0l hLb
  have l1' := l1 V
  have l3' := l3 V
  clear l1 l3
  have gM : (pad0 (zb4 s))[M]? = some ((pad0 (zb4 s)).getD M 0) := by
   rw [List.getD_eq_getElem?_getD,List.getElem?_eq_getElem (by omega)]; rfl
  have wL : IntKind.i64.wrap ((L : Int) - 1) = (M : Int) := by rw [i64_in _ ⟨by omega,by omega⟩]; omega
  have ia : ∀ h,zc9 1 (.arr 1 V (za0 (pad0 (zb4 s))) true :: h) (.own 0 V L) (.int .i64 (M : Int)) = some (.eptr 0 V M 0) := fun h => zV0 (l := 0) rfl (by rw [byteRows_len,h0l]) (row := [.int .u8 ((pad0 (zb4 s)).getD M 0)]) (zk7 gM) rfl
  have ld : ∀ h,za8 1 false (.arr 1 V (za0 (pad0 (zb4 s))) true :: h) (.eptr 0 V M 0) = some (.int .u8 ((pad0 (zb4 s)).getD M 0)) := fun h => by rw [yn5 (l := 0) rfl (zk7 gM)]; rfl
  have so : opV G false [.arr 1 V (za0 (pad0 (zb4 s))) true] (.st 1) (some [.eptr 0 V M 0,.int .u8 (orB ((pad0 (zb4 s)).getD M 0) 128)]) = some (.junk,[.arr 1 V (za0 (padE (zb4 s))) true]) := by
   rw [zO9 (n := 1) (l := 0) rfl (zk7 gM) rfl (by omega) rfl (by simp) rfl rfl,hpE,← zT8]
   rfl
  have s2 : ∀ st,opV G st [] .s2b (some [.str s]) = some (.own 0 0 s.length,[.arr 1 0 (za0 (zb4 s)) true]) := fun st => by
   rw [zi1 rfl]
   simp only [zb1]
   rw [if_pos (by unfold zb9; omega)]
   simp [za0,zb4]
  have ap := fun st => yM4 (G := G) (s := st) (h := [.arr 1 0 (za0 (zb4 s)) true]) (n := 1) (b := 1) (l := 0) (ver := 0) (k := s.length) (x := .tsl [[.int .u8 6]]) (new := [[.int .u8 6]]) (rows := za0 (zb4 s)) rfl rfl (by rw [byteRows_len,hbl]) rfl (by simp) (by simp [zb9]; omega) (by simp [zb9]; omega)
  have e6 : za0 (zb4 s) ++ [[.int .u8 6]] = za0 (zb4 s ++ [6]) := by simp [za0]
  simp only [List.length_singleton,List.set,e6] at ap
  have bs6 : ∀ st h,opV G st h (.bsl false 1) (some [.int .u8 6]) = some (.tsl [[.int .u8 6]],h) := fun st h => by rw [zH3 rfl]; rfl
  simp only [List.replicate_zero,Nat.add_zero] at l0
  have ln : ∀ h,ze1 h 1 (.own 0 V L) = some (.int .i64 (L : Int)) := fun h => rfl
  have z25 : [AV.int .u64 0,.int .u64 0,.int .u64 0,.int .u64 0,.int .u64 0,.int .u64 0,.int .u64 0,.int .u64 0,.int .u64 0,.int .u64 0,.int .u64 0,.int .u64 0,.int .u64 0,.int .u64 0,.int .u64 0,.int .u64 0,.int .u64 0,.int .u64 0,.int .u64 0,.int .u64 0,.int .u64 0,.int .u64 0,.int .u64 0,.int .u64 0,.int .u64 0] = wd zs25 := rfl
  have mk : ∀ A B : Blk,opV G false [A,B] (.mksl [.int .u8 0] 1) (some [.int .i64 32,.int .i64 32]) = some (.own 2 0 32,[A,B,.arr 1 0 (za0 (List.replicate 32 0)) true]) := fun A B => by
   have := ym6 (G := G) (s := false) (h := [A,B]) (zero := [.int .u8 0]) (bytes := 1) (n := 32) (k := .i64) (k' := .i64) (by decide) (by decide)
   simpa [za0] using this
  have bst : ∀ A B : Blk,opV G false [A,B,.arr 1 0 (za0 (outE (blkR N zs25 (padE (zb4 s))) 32 0 (List.replicate 32 0))) true] .b2s (some [.own 2 0 32]) = some (.str (strI (outE (blkR N zs25 (padE (zb4 s))) 32 0 (List.replicate 32 0))),[A,B,.arr 1 0 (za0 (outE (blkR N zs25 (padE (zb4 s))) 32 0 (List.replicate 32 0))) true]) := fun A B => by
   rw [zb2 rfl]
   have := zr2 (h := [A,B,.arr 1 0 (za0 (outE (blkR N zs25 (padE (zb4 s))) 32 0 (List.replicate 32 0))) true]) (l := 2) (v := 0) rfl (n := 32) (by rw [byteRows_len]; exact hol.symm)
   simp only [za7,this,zV3 _ hin,Option.map]
  have l3'' := fun e5 => l3' (za0 (padE (zb4 s))) e5
  clear l3' hpE gM hin hol hN2 hdiv hPm' hbk
  generalize outE (blkR N zs25 (padE (zb4 s))) 32 0 (List.replicate 32 0) = o at bst l3'' ⊢
  simp only [Nat.zero_mul,List.drop_zero] at l1'
  generalize blkR N zs25 (padE (zb4 s)) = p at l1' l3''
  generalize za0 (padE (zb4 s)) = RP at so l1' l3''
  generalize (pad0 (zb4 s)).getD M 0 = w at ld so
  generalize za0 (pad0 (zb4 s)) = R0 at ia ld so l0
  generalize za0 (zb4 s ++ [6]) = R6 at ap l0
  generalize za0 (zb4 s) = RB at s2 ap
  generalize za0 (List.replicate 32 0) = RZ at mk l3''
  simp only [Mc.q65,z25]
  generalize zs25 = Z at l1' ⊢
  simp only [sfr] at l0 l1' l3''
  simp [za2,Ks.q65,s2,bs6,ap,-zH3]
  refine l0 _ _ (fun env => ?_)
  simp [ln,wL,ia,ld,so,-ze1,-za8,-yc3]
  refine l1' _ _ (fun env => ?_)
  simp [mk]
  refine l3'' _ _ _ (fun env => ?_)
  simp [bst,Rs.q65]
 ·cases h
end Go.Proofs.YtopiadllkglamaaGreatDoor
