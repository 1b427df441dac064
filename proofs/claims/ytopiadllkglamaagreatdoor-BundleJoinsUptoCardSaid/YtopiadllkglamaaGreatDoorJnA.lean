/- The functions of lists and joins of distributions,resolved: by program (Gen.lean). Distributions: whether they are right; the text of their packages and their sources; what is joined: plain laws. Dis -/
import Derived.Test.YtopiadllkglamaaGreatDoorRecMc
import Derived.Test.YtopiadllkglamaaGreatDoorRmD
import Derived.Test.YtopiadllkglamaaGreatDoorRmJ
import Derived.Test.YtopiadllkglamaaGreatDoorPkC
import Derived.Test.YtopiadllkglamaaGreatDoorAm10
namespace Go.Proofs.YtopiadllkglamaaGreatDoor
def Ks.bundle_Join : List Nat := [0,1,4,5,6,7,8,9,11,12,14,15,16,31,32,33,47,48,49]
def Rs.bundle_Join : List RV := [.tmp 4,.tmp 5]
def Dl.bundle_Join : List (List Nat) := [[11,12,14,15,16,47,48,49],[14,15,16]]
def Mc.bundle_Join_L1 : MC := (.seq (.reg [
  ⟨none,some 50,false,.bin .lss,[.t 49,.t 48]⟩])
 (.seq (.ite (.t 50)
  .skip
  (.exit 2))
 (.seq (.blk 3 (.seq (.reg [
  ⟨none,some 51,false,.iadr 2,[.t 47,.t 49]⟩,
  ⟨none,some 52,false,.ld 2 true,[.t 51]⟩,
  ⟨none,some 14,true,.alloc [.str [],.str []],[]⟩,
  ⟨none,none,false,.st 2,[.t 14,.t 52]⟩])
 (.seq (.reg [
  ⟨none,some 54,false,.fadr 0,[.t 14]⟩,
  ⟨none,some 55,false,.ld 1 false,[.t 54]⟩,
  ⟨none,some 56,false,.fadr 0,[.t 12]⟩,
  ⟨none,some 57,false,.ld 1 false,[.t 56]⟩,
  ⟨none,some 58,false,.bin .add,[.t 57,.c (.str [47])]⟩,
  ⟨none,some 59,false,.call Fn.q37,[.t 55,.t 58]⟩,
  ⟨none,some 53,false,.mv,[.t 59]⟩,
  ⟨none,some 60,false,.ext 0,[.t 53]⟩,
  ⟨none,some 61,false,.ext 1,[.t 53]⟩,
  ⟨none,some 15,true,.mv,[.t 60]⟩,
  ⟨none,some 16,true,.mv,[.t 61]⟩])
 (.seq (.reg [
  ⟨none,some 62,false,.mv,[.t 16]⟩])
 (.ite (.t 62)
  (.seq (.reg [
   ⟨none,some 63,false,.fadr 3,[.t 12]⟩,
   ⟨none,some 64,false,.ld 1 false,[.t 63]⟩,
   ⟨none,some 65,false,.mv,[.t 15]⟩,
   ⟨none,some 66,false,.fadr 1,[.t 14]⟩,
   ⟨none,some 67,false,.ld 1 false,[.t 66]⟩,
   ⟨none,some 68,false,.bld [.str [],.str []] [(0,1),(1,1)],[.t 65,.t 67]⟩,
   ⟨none,some 69,false,.bsl false 2,[.t 68]⟩,
   ⟨none,some 70,false,.app false 2 32,[.t 64,.t 69]⟩,
   ⟨none,some 71,false,.fadr 3,[.t 12]⟩,
   ⟨none,none,false,.st 1,[.t 71,.t 70]⟩])
  (.reg [
   ⟨none,some 72,false,.mv,[.t 9]⟩,
   ⟨none,some 73,false,.bin .add,[.t 72,.c (.int .i64 1)]⟩,
   ⟨none,some 9,true,.mv,[.t 73]⟩]))
  .skip)))))
 (.reg [
  ⟨none,some 74,false,.bin .add,[.t 49,.c (.int .i64 1)]⟩,
  ⟨none,some 49,true,.mv,[.t 74]⟩]))))
def Mc.bundle_Join_L0 : MC := (.seq (.reg [
  ⟨none,some 34,false,.bin .lss,[.t 33,.t 32]⟩])
 (.seq (.ite (.t 34)
  .skip
  (.exit 0))
 (.seq (.blk 1 (.seq (.reg [
  ⟨none,some 35,false,.iadr 1,[.t 31,.t 33]⟩,
  ⟨none,some 36,false,.ld 1 false,[.t 35]⟩,
  ⟨none,some 11,true,.mv,[.t 36]⟩])
 (.seq (.rge [
  (false,[],⟨none,some 37,false,.mv,[.t 11]⟩),
  (false,[9],⟨none,some 38,false,.iadr 1,[.t 37,.c (.int .i64 0)]⟩),
  (false,[8],⟨none,some 39,false,.ld 1 false,[.t 38]⟩),
  (false,[],⟨none,some 40,false,.mv,[.t 11]⟩),
  (false,[6],⟨none,some 41,false,.iadr 1,[.t 40,.c (.int .i64 1)]⟩),
  (false,[5],⟨none,some 42,false,.ld 1 false,[.t 41]⟩),
  (false,[],⟨none,some 43,false,.mv,[.t 11]⟩),
  (false,[3],⟨none,some 44,false,.iadr 1,[.t 43,.c (.int .i64 2)]⟩),
  (false,[2],⟨none,some 45,false,.ld 1 false,[.t 44]⟩),
  (false,[1],⟨none,some 46,false,.bld [.str [],.str [],.str [],.nils] [(0,1),(1,1),(2,1)],[.t 39,.t 42,.t 45]⟩),
  (false,[],⟨none,some 12,true,.alloc [.str [],.str [],.str [],.nils],[]⟩),
  (false,[],⟨none,none,false,.st 4,[.t 12,.t 46]⟩)])
 (.seq (.seq (.reg [
  ⟨none,some 47,true,.mv,[.t 1]⟩,
  ⟨none,some 48,true,.len 1,[.t 47]⟩,
  ⟨none,some 49,true,.mv,[.c (.int .i64 0)]⟩])
 (.blk 2 (.loop [14,15,16] Mc.bundle_Join_L1)))
 (.reg [
  ⟨none,some 75,false,.mv,[.t 8]⟩,
  ⟨none,some 76,false,.ld 4 true,[.t 12]⟩,
  ⟨none,some 77,false,.bsl false 4,[.t 76]⟩,
  ⟨none,some 78,false,.app false 4 72,[.t 75,.t 77]⟩,
  ⟨none,some 8,true,.mv,[.t 78]⟩])))))
 (.reg [
  ⟨none,some 79,false,.bin .add,[.t 33,.c (.int .i64 1)]⟩,
  ⟨none,some 33,true,.mv,[.t 79]⟩]))))
def Mc.bundle_Join : MC := (.seq (.reg [
  ⟨none,some 4,true,.newnil 4,[]⟩,
  ⟨none,some 5,true,.mv,[.c (.int .i64 0)]⟩])
 (.seq (.seq (.reg [
  ⟨none,some 17,false,.mv,[.t 1]⟩,
  ⟨none,some 18,false,.call Fn.tree_Check,[.t 17]⟩,
  ⟨none,some 19,false,.bin .neq,[.t 18,.c (.int .i64 0)]⟩])
 (.ite (.t 19)
  (.seq (.reg [
   ⟨none,some 4,true,.newnil 4,[]⟩,
   ⟨none,some 5,true,.mv,[.c (.int .i64 1)]⟩])
  .ret)
  .skip))
 (.seq (.reg [
  ⟨none,some 21,false,.mv,[.t 0]⟩,
  ⟨none,some 22,false,.call Fn.bundle_rows,[.t 21]⟩,
  ⟨none,some 20,false,.mv,[.t 22]⟩,
  ⟨none,some 23,false,.ext 0,[.t 20]⟩,
  ⟨none,some 24,false,.ext 1,[.t 20]⟩,
  ⟨none,some 6,true,.mv,[.t 23]⟩,
  ⟨none,some 7,true,.mv,[.t 24]⟩])
 (.seq (.seq (.reg [
  ⟨none,some 25,false,.mv,[.t 7]⟩,
  ⟨none,some 26,false,.un .not,[.t 25]⟩,
  ⟨none,some 27,false,.mv,[.t 26]⟩,
  ⟨some (27,false),some 28,false,.mv,[.t 6]⟩,
  ⟨some (27,false),some 29,false,.call Fn.q11,[.t 28,.c (.fn Fn.q66 [])]⟩,
  ⟨none,some 30,false,.pick,[.t 27,.c (.bool true),.t 29]⟩])
 (.ite (.t 30)
  (.seq (.reg [
   ⟨none,some 4,true,.newnil 4,[]⟩,
   ⟨none,some 5,true,.mv,[.c (.int .i64 4)]⟩])
  .ret)
  .skip))
 (.seq (.reg [
  ⟨none,some 8,true,.newnil 4,[]⟩])
 (.seq (.reg [
  ⟨none,some 9,true,.mv,[.c (.int .i64 0)]⟩])
 (.seq (.seq (.reg [
  ⟨none,some 31,true,.mv,[.t 6]⟩,
  ⟨none,some 32,true,.len 1,[.t 31]⟩,
  ⟨none,some 33,true,.mv,[.c (.int .i64 0)]⟩])
 (.blk 0 (.loop [11,12,14,15,16,47,48,49] Mc.bundle_Join_L0)))
 (.seq (.seq (.reg [
  ⟨none,some 80,false,.mv,[.t 8]⟩,
  ⟨none,some 81,false,.call Fn.build_Check,[.t 80]⟩,
  ⟨none,some 82,false,.bin .neq,[.t 81,.c (.int .i64 0)]⟩])
 (.ite (.t 82)
  (.seq (.reg [
   ⟨none,some 4,true,.newnil 4,[]⟩,
   ⟨none,some 5,true,.mv,[.c (.int .i64 1)]⟩])
  .ret)
  .skip))
 (.seq (.seq (.reg [
  ⟨none,some 83,false,.mv,[.t 9]⟩,
  ⟨none,some 84,false,.mv,[.t 1]⟩,
  ⟨none,some 85,false,.len 1,[.t 84]⟩,
  ⟨none,some 86,false,.bin .neq,[.t 83,.t 85]⟩])
 (.ite (.t 86)
  (.seq (.reg [
   ⟨none,some 4,true,.newnil 4,[]⟩,
   ⟨none,some 5,true,.mv,[.c (.int .i64 9)]⟩])
  .ret)
  .skip))
 (.seq (.reg [
  ⟨none,some 87,false,.mv,[.t 8]⟩,
  ⟨none,some 4,true,.mv,[.t 87]⟩,
  ⟨none,some 5,true,.mv,[.c (.int .i64 0)]⟩])
 .ret))))))))))
def Ks.q56 : List Nat := [0,1,4,5,6,7,8,9,10,11,12,13,14]
def Rs.q56 : List RV := [.tmp 4,.tmp 5]
def Dl.q56 : List (List Nat) := [[11,12,13,14],[13,14]]
def Mc.q56_L1 : MC := (.seq (.seq (.reg [
  ⟨none,some 56,false,.mv,[.t 12]⟩,
  ⟨none,some 57,false,.mv,[.t 1]⟩,
  ⟨none,some 58,false,.len 1,[.t 57]⟩,
  ⟨none,some 59,false,.bin .lss,[.t 56,.t 58]⟩])
 (.ite (.t 59)
  .skip
  (.exit 2)))
 (.seq (.blk 3 (.seq (.reg [
  ⟨none,some 63,false,.mv,[.t 1]⟩,
  ⟨none,some 64,false,.mv,[.t 12]⟩,
  ⟨none,some 65,false,.iadr 2,[.t 63,.t 64]⟩,
  ⟨none,some 66,false,.fadr 0,[.t 65]⟩,
  ⟨none,some 67,false,.ld 1 false,[.t 66]⟩,
  ⟨none,some 68,false,.call Fn.q46,[.t 67]⟩,
  ⟨none,some 62,false,.mv,[.t 68]⟩,
  ⟨none,some 69,false,.ext 0,[.t 62]⟩,
  ⟨none,some 70,false,.ext 1,[.t 62]⟩,
  ⟨none,some 13,true,.mv,[.t 69]⟩,
  ⟨none,some 14,true,.mv,[.t 70]⟩])
 (.seq (.reg [
  ⟨none,some 71,false,.mv,[.t 13]⟩,
  ⟨none,some 72,false,.fadr 0,[.t 11]⟩,
  ⟨none,some 73,false,.ld 1 false,[.t 72]⟩,
  ⟨none,some 74,false,.bin .eql,[.t 71,.t 73]⟩,
  ⟨none,some 75,false,.mv,[.t 74]⟩,
  ⟨some (75,true),some 76,false,.mv,[.t 14]⟩,
  ⟨some (75,true),some 77,false,.bin .neq,[.t 76,.c (.str [])]⟩,
  ⟨none,some 78,false,.pick,[.t 75,.t 77,.c (.bool false)]⟩])
 (.ite (.t 78)
  (.seq (.rgd [
   ⟨none,some 79,false,.fadr 3,[.t 11]⟩,
   ⟨none,some 80,false,.ld 1 false,[.t 79]⟩,
   ⟨none,some 81,false,.mv,[.t 14]⟩,
   ⟨none,some 82,false,.mv,[.t 1]⟩,
   ⟨none,some 83,false,.mv,[.t 12]⟩,
   ⟨none,some 84,false,.iadr 2,[.t 82,.t 83]⟩,
   ⟨none,some 85,false,.fadr 1,[.t 84]⟩,
   ⟨none,some 86,false,.ld 1 false,[.t 85]⟩,
   ⟨none,some 87,false,.bld [.str [],.str []] [(0,1),(1,1)],[.t 81,.t 86]⟩,
   ⟨none,some 88,false,.bsl false 2,[.t 87]⟩,
   ⟨none,some 89,false,.app false 2 32,[.t 80,.t 88]⟩,
   ⟨none,some 90,false,.fadr 3,[.t 11]⟩,
   ⟨none,none,false,.st 1,[.t 90,.t 89]⟩])
  (.reg [
   ⟨none,some 91,false,.mv,[.t 9]⟩,
   ⟨none,some 92,false,.bin .add,[.t 91,.c (.int .i64 1)]⟩,
   ⟨none,some 9,true,.mv,[.t 92]⟩]))
  .skip))))
 (.reg [
  ⟨none,some 60,false,.mv,[.t 12]⟩,
  ⟨none,some 61,false,.bin .add,[.t 60,.c (.int .i64 1)]⟩,
  ⟨none,some 12,true,.mv,[.t 61]⟩])))
def Mc.q56_L0 : MC := (.seq (.seq (.reg [
  ⟨none,some 25,false,.mv,[.t 10]⟩,
  ⟨none,some 26,false,.mv,[.t 6]⟩,
  ⟨none,some 27,false,.len 1,[.t 26]⟩,
  ⟨none,some 28,false,.bin .lss,[.t 25,.t 27]⟩])
 (.ite (.t 28)
  .skip
  (.exit 0)))
 (.seq (.blk 1 (.seq (.seq (.reg [
  ⟨none,some 31,false,.mv,[.t 6]⟩,
  ⟨none,some 32,false,.mv,[.t 10]⟩,
  ⟨none,some 33,false,.iadr 1,[.t 31,.t 32]⟩,
  ⟨none,some 34,false,.ld 1 false,[.t 33]⟩,
  ⟨none,some 35,false,.len 1,[.t 34]⟩,
  ⟨none,some 36,false,.bin .neq,[.t 35,.c (.int .i64 3)]⟩])
 (.ite (.t 36)
  (.seq (.reg [
   ⟨none,some 4,true,.newnil 4,[]⟩,
   ⟨none,some 5,true,.mv,[.c (.int .i64 4)]⟩])
  .ret)
  .skip))
 (.seq (.rge [
  (false,[],⟨none,some 37,false,.mv,[.t 6]⟩),
  (false,[],⟨none,some 38,false,.mv,[.t 10]⟩),
  (false,[17],⟨none,some 39,false,.iadr 1,[.t 37,.t 38]⟩),
  (false,[16],⟨none,some 40,false,.ld 1 false,[.t 39]⟩),
  (false,[15],⟨none,some 41,false,.iadr 1,[.t 40,.c (.int .i64 0)]⟩),
  (false,[14],⟨none,some 42,false,.ld 1 false,[.t 41]⟩),
  (false,[],⟨none,some 43,false,.mv,[.t 6]⟩),
  (false,[],⟨none,some 44,false,.mv,[.t 10]⟩),
  (false,[11],⟨none,some 45,false,.iadr 1,[.t 43,.t 44]⟩),
  (false,[10],⟨none,some 46,false,.ld 1 false,[.t 45]⟩),
  (false,[9],⟨none,some 47,false,.iadr 1,[.t 46,.c (.int .i64 1)]⟩),
  (false,[8],⟨none,some 48,false,.ld 1 false,[.t 47]⟩),
  (false,[],⟨none,some 49,false,.mv,[.t 6]⟩),
  (false,[],⟨none,some 50,false,.mv,[.t 10]⟩),
  (false,[5],⟨none,some 51,false,.iadr 1,[.t 49,.t 50]⟩),
  (false,[4],⟨none,some 52,false,.ld 1 false,[.t 51]⟩),
  (false,[3],⟨none,some 53,false,.iadr 1,[.t 52,.c (.int .i64 2)]⟩),
  (false,[2],⟨none,some 54,false,.ld 1 false,[.t 53]⟩),
  (false,[1],⟨none,some 55,false,.bld [.str [],.str [],.str [],.nils] [(0,1),(1,1),(2,1)],[.t 42,.t 48,.t 54]⟩),
  (false,[],⟨none,some 11,true,.alloc [.str [],.str [],.str [],.nils],[]⟩),
  (false,[],⟨none,none,false,.st 4,[.t 11,.t 55]⟩)])
 (.seq (.seq (.reg [
  ⟨none,some 12,true,.mv,[.c (.int .i64 0)]⟩])
 (.blk 2 (.loop [13,14] Mc.q56_L1)))
 (.reg [
  ⟨none,some 93,false,.mv,[.t 8]⟩,
  ⟨none,some 94,false,.ld 4 true,[.t 11]⟩,
  ⟨none,some 95,false,.bsl false 4,[.t 94]⟩,
  ⟨none,some 96,false,.app false 4 72,[.t 93,.t 95]⟩,
  ⟨none,some 8,true,.mv,[.t 96]⟩])))))
 (.reg [
  ⟨none,some 29,false,.mv,[.t 10]⟩,
  ⟨none,some 30,false,.bin .add,[.t 29,.c (.int .i64 1)]⟩,
  ⟨none,some 10,true,.mv,[.t 30]⟩])))
def Mc.q56 : MC := (.seq (.reg [
  ⟨none,some 4,true,.newnil 4,[]⟩,
  ⟨none,some 5,true,.mv,[.c (.int .i64 0)]⟩])
 (.seq (.seq (.reg [
  ⟨none,some 15,false,.mv,[.t 1]⟩,
  ⟨none,some 16,false,.call Fn.q44,[.t 15]⟩,
  ⟨none,some 17,false,.bin .neq,[.t 16,.c (.int .i64 0)]⟩])
 (.ite (.t 17)
  (.seq (.reg [
   ⟨none,some 4,true,.newnil 4,[]⟩,
   ⟨none,some 5,true,.mv,[.c (.int .i64 1)]⟩])
  .ret)
  .skip))
 (.seq (.reg [
  ⟨none,some 19,false,.mv,[.t 0]⟩,
  ⟨none,some 20,false,.call Fn.q45,[.t 19]⟩,
  ⟨none,some 18,false,.mv,[.t 20]⟩,
  ⟨none,some 21,false,.ext 0,[.t 18]⟩,
  ⟨none,some 22,false,.ext 1,[.t 18]⟩,
  ⟨none,some 6,true,.mv,[.t 21]⟩,
  ⟨none,some 7,true,.mv,[.t 22]⟩])
 (.seq (.seq (.reg [
  ⟨none,some 23,false,.mv,[.t 7]⟩,
  ⟨none,some 24,false,.un .not,[.t 23]⟩])
 (.ite (.t 24)
  (.seq (.reg [
   ⟨none,some 4,true,.newnil 4,[]⟩,
   ⟨none,some 5,true,.mv,[.c (.int .i64 4)]⟩])
  .ret)
  .skip))
 (.seq (.reg [
  ⟨none,some 8,true,.newnil 4,[]⟩])
 (.seq (.reg [
  ⟨none,some 9,true,.mv,[.c (.int .i64 0)]⟩])
 (.seq (.seq (.reg [
  ⟨none,some 10,true,.mv,[.c (.int .i64 0)]⟩])
 (.blk 0 (.loop [11,12,13,14] Mc.q56_L0)))
 (.seq (.seq (.reg [
  ⟨none,some 97,false,.mv,[.t 8]⟩,
  ⟨none,some 98,false,.call Fn.q43,[.t 97]⟩,
  ⟨none,some 99,false,.bin .neq,[.t 98,.c (.int .i64 0)]⟩])
 (.ite (.t 99)
  (.seq (.reg [
   ⟨none,some 4,true,.newnil 4,[]⟩,
   ⟨none,some 5,true,.mv,[.c (.int .i64 1)]⟩])
  .ret)
  .skip))
 (.seq (.seq (.reg [
  ⟨none,some 100,false,.mv,[.t 9]⟩,
  ⟨none,some 101,false,.mv,[.t 1]⟩,
  ⟨none,some 102,false,.len 1,[.t 101]⟩,
  ⟨none,some 103,false,.bin .neq,[.t 100,.t 102]⟩])
 (.ite (.t 103)
  (.seq (.reg [
   ⟨none,some 4,true,.newnil 4,[]⟩,
   ⟨none,some 5,true,.mv,[.c (.int .i64 9)]⟩])
  .ret)
  .skip))
 (.seq (.reg [
  ⟨none,some 104,false,.mv,[.t 8]⟩,
  ⟨none,some 4,true,.mv,[.t 104]⟩,
  ⟨none,some 5,true,.mv,[.c (.int .i64 0)]⟩])
 .ret))))))))))
def Ks.build_Check : List Nat := [0,2,3,4,5,7,11,12,13]
def Rs.build_Check : List RV := [.tmp 2]
def Dl.build_Check : List (List Nat) := [[4,5,7]]
def Mc.build_Check_L0 : MC := (.seq (.reg [
  ⟨none,some 14,false,.bin .lss,[.t 13,.t 12]⟩])
 (.seq (.ite (.t 14)
  .skip
  (.exit 0))
 (.seq (.blk 1 (.seq (.reg [
  ⟨none,some 15,false,.mv,[.t 13]⟩,
  ⟨none,some 16,false,.iadr 4,[.t 11,.t 13]⟩,
  ⟨none,some 17,false,.ld 4 true,[.t 16]⟩,
  ⟨none,some 5,true,.alloc [.str [],.str [],.str [],.nils],[]⟩,
  ⟨none,some 4,true,.mv,[.t 15]⟩,
  ⟨none,none,false,.st 4,[.t 5,.t 17]⟩])
 (.seq (.blk 2 (.seq (.reg [
  ⟨none,some 19,false,.fadr 0,[.t 5]⟩,
  ⟨none,some 20,false,.ld 1 false,[.t 19]⟩,
  ⟨none,some 21,false,.call Fn.build_part,[.t 20]⟩,
  ⟨none,some 22,false,.un .not,[.t 21]⟩,
  ⟨none,some 23,false,.mv,[.t 22]⟩,
  ⟨some (23,false),some 24,false,.fadr 1,[.t 5]⟩,
  ⟨some (23,false),some 25,false,.ld 1 false,[.t 24]⟩,
  ⟨some (23,false),some 26,false,.call Fn.build_part,[.t 25]⟩,
  ⟨some (23,false),some 27,false,.un .not,[.t 26]⟩,
  ⟨none,some 28,false,.pick,[.t 23,.c (.bool true),.t 27]⟩,
  ⟨none,some 18,false,.mv,[.t 28]⟩])
 (.ite (.t 18)
  (.seq (.reg [
   ⟨none,some 2,true,.mv,[.c (.int .i64 2)]⟩])
  .ret)
  (.seq (.reg [
   ⟨none,some 30,false,.mv,[.t 0]⟩,
   ⟨none,some 31,false,.mv,[.t 4]⟩,
   ⟨none,some 32,false,.slc (some 4) false true false,[.t 30,.t 31]⟩,
   ⟨none,some 33,false,.mkfn Fn.q67,[.t 5]⟩,
   ⟨none,some 34,false,.call Fn.q9,[.t 32,.t 33]⟩,
   ⟨none,some 29,false,.mv,[.t 34]⟩])
  (.ite (.t 29)
   (.seq (.reg [
    ⟨none,some 2,true,.mv,[.c (.int .i64 6)]⟩])
   .ret)
   (.seq (.reg [
    ⟨none,some 36,false,.fadr 3,[.t 5]⟩,
    ⟨none,some 37,false,.ld 1 false,[.t 36]⟩,
    ⟨none,some 38,false,.call Fn.tree_Check,[.t 37]⟩,
    ⟨none,some 39,false,.bin .neq,[.t 38,.c (.int .i64 0)]⟩,
    ⟨none,some 35,false,.mv,[.t 39]⟩])
   (.ite (.t 35)
    (.seq (.reg [
     ⟨none,some 2,true,.mv,[.c (.int .i64 1)]⟩])
    .ret)
    (.seq (.reg [
     ⟨none,some 41,false,.fadr 3,[.t 5]⟩,
     ⟨none,some 42,false,.ld 1 false,[.t 41]⟩,
     ⟨none,some 43,false,.mkfn Fn.q68,[.t 5]⟩,
     ⟨none,some 44,false,.call Fn.q12,[.t 42,.t 43]⟩,
     ⟨none,some 40,false,.mv,[.t 44]⟩])
    (.ite (.t 40)
     (.seq (.reg [
      ⟨none,some 2,true,.mv,[.c (.int .i64 2)]⟩])
     .ret)
     .skip)))))))))
 (.seq (.seq (.reg [
  ⟨none,some 46,false,.fadr 3,[.t 5]⟩,
  ⟨none,some 47,false,.ld 1 false,[.t 46]⟩,
  ⟨none,some 48,false,.fadr 2,[.t 5]⟩,
  ⟨none,some 49,false,.ld 1 false,[.t 48]⟩,
  ⟨none,some 50,false,.call Fn.tree_Find,[.t 47,.t 49]⟩,
  ⟨none,some 45,false,.mv,[.t 50]⟩,
  ⟨none,some 51,false,.ext 0,[.t 45]⟩,
  ⟨none,some 52,false,.ext 1,[.t 45]⟩,
  ⟨none,some 6,false,.mv,[.t 51]⟩,
  ⟨none,some 7,true,.mv,[.t 52]⟩])
 (.seq (.reg [
  ⟨none,some 53,false,.mv,[.t 7]⟩,
  ⟨none,some 54,false,.un .not,[.t 53]⟩])
 (.ite (.t 54)
  (.seq (.reg [
   ⟨none,some 2,true,.mv,[.c (.int .i64 7)]⟩])
  .ret)
  .skip)))
 (.seq (.reg [
  ⟨none,some 55,false,.mv,[.t 3]⟩,
  ⟨none,some 56,false,.fadr 3,[.t 5]⟩,
  ⟨none,some 57,false,.ld 1 false,[.t 56]⟩,
  ⟨none,some 58,false,.len 1,[.t 57]⟩,
  ⟨none,some 59,false,.bin .add,[.t 55,.t 58]⟩,
  ⟨none,some 3,true,.mv,[.t 59]⟩])
 (.seq (.reg [
  ⟨none,some 60,false,.mv,[.t 3]⟩,
  ⟨none,some 61,false,.bin .gtr,[.t 60,.c (.int .i64 64)]⟩])
 (.ite (.t 61)
  (.seq (.reg [
   ⟨none,some 2,true,.mv,[.c (.int .i64 10)]⟩])
  .ret)
  .skip)))))))
 (.reg [
  ⟨none,some 62,false,.bin .add,[.t 13,.c (.int .i64 1)]⟩,
  ⟨none,some 13,true,.mv,[.t 62]⟩]))))
def Mc.build_Check : MC := (.seq (.reg [
  ⟨none,some 2,true,.mv,[.c (.int .i64 0)]⟩])
 (.seq (.seq (.reg [
  ⟨none,some 8,false,.mv,[.t 0]⟩,
  ⟨none,some 9,false,.len 1,[.t 8]⟩,
  ⟨none,some 10,false,.bin .gtr,[.t 9,.c (.int .i64 16)]⟩])
 (.ite (.t 10)
  (.seq (.reg [
   ⟨none,some 2,true,.mv,[.c (.int .i64 10)]⟩])
  .ret)
  .skip))
 (.seq (.reg [
  ⟨none,some 3,true,.mv,[.c (.int .i64 0)]⟩])
 (.seq (.seq (.reg [
  ⟨none,some 11,true,.mv,[.t 0]⟩,
  ⟨none,some 12,true,.len 1,[.t 11]⟩,
  ⟨none,some 13,true,.mv,[.c (.int .i64 0)]⟩])
 (.blk 0 (.loop [4,5,7] Mc.build_Check_L0)))
 (.seq (.reg [
  ⟨none,some 2,true,.mv,[.c (.int .i64 0)]⟩])
 .ret)))))
def Ks.q43 : List Nat := [0,2,3,4,6,8,10,14,15,16]
def Rs.q43 : List RV := [.tmp 2]
def Dl.q43 : List (List Nat) := [[6,8,10]]
def Mc.q43_L0 : MC := (.seq (.reg [
  ⟨none,some 17,false,.bin .lss,[.t 16,.t 15]⟩])
 (.seq (.ite (.t 17)
  .skip
  (.exit 0))
 (.seq (.blk 1 (.seq (.reg [
  ⟨none,some 18,false,.iadr 4,[.t 14,.t 16]⟩,
  ⟨none,some 19,false,.ld 4 true,[.t 18]⟩,
  ⟨none,some 6,true,.alloc [.str [],.str [],.str [],.nils],[]⟩,
  ⟨none,none,false,.st 4,[.t 6,.t 19]⟩])
 (.seq (.seq (.reg [
  ⟨none,some 20,false,.fadr 0,[.t 6]⟩,
  ⟨none,some 21,false,.ld 1 false,[.t 20]⟩,
  ⟨none,some 22,false,.call Fn.q59,[.t 21]⟩,
  ⟨none,some 23,false,.un .not,[.t 22]⟩,
  ⟨none,some 24,false,.mv,[.t 23]⟩,
  ⟨some (24,false),some 25,false,.fadr 1,[.t 6]⟩,
  ⟨some (24,false),some 26,false,.ld 1 false,[.t 25]⟩,
  ⟨some (24,false),some 27,false,.call Fn.q59,[.t 26]⟩,
  ⟨some (24,false),some 28,false,.un .not,[.t 27]⟩,
  ⟨none,some 29,false,.pick,[.t 24,.c (.bool true),.t 28]⟩])
 (.ite (.t 29)
  (.seq (.reg [
   ⟨none,some 2,true,.mv,[.c (.int .i64 2)]⟩])
  .ret)
  .skip))
 (.seq (.seq (.reg [
  ⟨none,some 30,false,.mv,[.t 4]⟩,
  ⟨none,some 31,false,.fadr 0,[.t 6]⟩,
  ⟨none,some 32,false,.ld 1 false,[.t 31]⟩,
  ⟨none,some 33,false,.call Fn.q62,[.t 30,.t 32]⟩])
 (.ite (.t 33)
  (.seq (.reg [
   ⟨none,some 2,true,.mv,[.c (.int .i64 6)]⟩])
  .ret)
  .skip))
 (.seq (.reg [
  ⟨none,some 34,false,.mv,[.t 4]⟩,
  ⟨none,some 35,false,.fadr 0,[.t 6]⟩,
  ⟨none,some 36,false,.ld 1 false,[.t 35]⟩,
  ⟨none,some 37,false,.bsl false 1,[.t 36]⟩,
  ⟨none,some 38,false,.app false 1 16,[.t 34,.t 37]⟩,
  ⟨none,some 4,true,.mv,[.t 38]⟩])
 (.seq (.seq (.reg [
  ⟨none,some 39,false,.fadr 3,[.t 6]⟩,
  ⟨none,some 40,false,.ld 1 false,[.t 39]⟩,
  ⟨none,some 41,false,.call Fn.q44,[.t 40]⟩,
  ⟨none,some 42,false,.bin .neq,[.t 41,.c (.int .i64 0)]⟩])
 (.ite (.t 42)
  (.seq (.reg [
   ⟨none,some 2,true,.mv,[.c (.int .i64 1)]⟩])
  .ret)
  .skip))
 (.seq (.reg [
  ⟨none,some 44,false,.fadr 3,[.t 6]⟩,
  ⟨none,some 45,false,.ld 1 false,[.t 44]⟩,
  ⟨none,some 46,false,.fadr 0,[.t 6]⟩,
  ⟨none,some 47,false,.ld 1 false,[.t 46]⟩,
  ⟨none,some 48,false,.call Fn.q47,[.t 45,.t 47]⟩,
  ⟨none,some 43,false,.mv,[.t 48]⟩,
  ⟨none,some 49,false,.ext 0,[.t 43]⟩,
  ⟨none,some 50,false,.ext 1,[.t 43]⟩,
  ⟨none,some 7,false,.mv,[.t 49]⟩,
  ⟨none,some 8,true,.mv,[.t 50]⟩])
 (.seq (.seq (.reg [
  ⟨none,some 51,false,.mv,[.t 8]⟩,
  ⟨none,some 52,false,.bin .neq,[.t 51,.c (.int .i64 0)]⟩])
 (.ite (.t 52)
  (.seq (.reg [
   ⟨none,some 2,true,.mv,[.c (.int .i64 2)]⟩])
  .ret)
  .skip))
 (.seq (.reg [
  ⟨none,some 54,false,.fadr 3,[.t 6]⟩,
  ⟨none,some 55,false,.ld 1 false,[.t 54]⟩,
  ⟨none,some 56,false,.fadr 2,[.t 6]⟩,
  ⟨none,some 57,false,.ld 1 false,[.t 56]⟩,
  ⟨none,some 58,false,.call Fn.q60,[.t 55,.t 57]⟩,
  ⟨none,some 53,false,.mv,[.t 58]⟩,
  ⟨none,some 59,false,.ext 0,[.t 53]⟩,
  ⟨none,some 60,false,.ext 1,[.t 53]⟩,
  ⟨none,some 9,false,.mv,[.t 59]⟩,
  ⟨none,some 10,true,.mv,[.t 60]⟩])
 (.seq (.seq (.reg [
  ⟨none,some 61,false,.mv,[.t 10]⟩,
  ⟨none,some 62,false,.un .not,[.t 61]⟩])
 (.ite (.t 62)
  (.seq (.reg [
   ⟨none,some 2,true,.mv,[.c (.int .i64 7)]⟩])
  .ret)
  .skip))
 (.seq (.reg [
  ⟨none,some 63,false,.mv,[.t 3]⟩,
  ⟨none,some 64,false,.fadr 3,[.t 6]⟩,
  ⟨none,some 65,false,.ld 1 false,[.t 64]⟩,
  ⟨none,some 66,false,.len 1,[.t 65]⟩,
  ⟨none,some 67,false,.bin .add,[.t 63,.t 66]⟩,
  ⟨none,some 3,true,.mv,[.t 67]⟩])
 (.seq (.reg [
  ⟨none,some 68,false,.mv,[.t 3]⟩,
  ⟨none,some 69,false,.bin .gtr,[.t 68,.c (.int .i64 64)]⟩])
 (.ite (.t 69)
  (.seq (.reg [
   ⟨none,some 2,true,.mv,[.c (.int .i64 10)]⟩])
  .ret)
  .skip)))))))))))))
 (.reg [
  ⟨none,some 70,false,.bin .add,[.t 16,.c (.int .i64 1)]⟩,
  ⟨none,some 16,true,.mv,[.t 70]⟩]))))
def Mc.q43 : MC := (.seq (.reg [
  ⟨none,some 2,true,.mv,[.c (.int .i64 0)]⟩])
 (.seq (.seq (.reg [
  ⟨none,some 11,false,.mv,[.t 0]⟩,
  ⟨none,some 12,false,.len 1,[.t 11]⟩,
  ⟨none,some 13,false,.bin .gtr,[.t 12,.c (.int .i64 16)]⟩])
 (.ite (.t 13)
  (.seq (.reg [
   ⟨none,some 2,true,.mv,[.c (.int .i64 10)]⟩])
  .ret)
  .skip))
 (.seq (.reg [
  ⟨none,some 3,true,.mv,[.c (.int .i64 0)]⟩])
 (.seq (.reg [
  ⟨none,some 4,true,.newnil 1,[]⟩])
 (.seq (.seq (.reg [
  ⟨none,some 14,true,.mv,[.t 0]⟩,
  ⟨none,some 15,true,.len 1,[.t 14]⟩,
  ⟨none,some 16,true,.mv,[.c (.int .i64 0)]⟩])
 (.blk 0 (.loop [6,8,10] Mc.q43_L0)))
 (.seq (.reg [
  ⟨none,some 2,true,.mv,[.c (.int .i64 0)]⟩])
 .ret))))))
def Ks.q22 : List Nat := [0,1,4,5]
def Rs.q22 : List RV := [.tmp 4]
def Dl.q22 : List (List Nat) := [[]]
def Mc.q22_L0 : MC := (.seq (.seq (.reg [
  ⟨none,some 11,false,.mv,[.t 5]⟩,
  ⟨none,some 12,false,.mv,[.t 0]⟩,
  ⟨none,some 13,false,.len 1,[.t 12]⟩,
  ⟨none,some 14,false,.bin .lss,[.t 11,.t 13]⟩])
 (.ite (.t 14)
  .skip
  (.exit 0)))
 (.seq (.blk 1 (.seq (.rgd [
  ⟨none,some 17,false,.mv,[.t 0]⟩,
  ⟨none,some 18,false,.mv,[.t 5]⟩,
  ⟨none,some 19,false,.iadr 4,[.t 17,.t 18]⟩,
  ⟨none,some 20,false,.fadr 0,[.t 19]⟩,
  ⟨none,some 21,false,.ld 1 false,[.t 20]⟩,
  ⟨none,some 22,false,.mv,[.t 1]⟩,
  ⟨none,some 23,false,.mv,[.t 5]⟩,
  ⟨none,some 24,false,.iadr 4,[.t 22,.t 23]⟩,
  ⟨none,some 25,false,.fadr 0,[.t 24]⟩,
  ⟨none,some 26,false,.ld 1 false,[.t 25]⟩,
  ⟨none,some 27,false,.bin .neq,[.t 21,.t 26]⟩,
  ⟨none,some 28,false,.mv,[.t 27]⟩,
  ⟨some (28,false),some 29,false,.mv,[.t 0]⟩,
  ⟨some (28,false),some 30,false,.mv,[.t 5]⟩,
  ⟨some (28,false),some 31,false,.iadr 4,[.t 29,.t 30]⟩,
  ⟨some (28,false),some 32,false,.fadr 1,[.t 31]⟩,
  ⟨some (28,false),some 33,false,.ld 1 false,[.t 32]⟩,
  ⟨some (28,false),some 34,false,.mv,[.t 1]⟩,
  ⟨some (28,false),some 35,false,.mv,[.t 5]⟩,
  ⟨some (28,false),some 36,false,.iadr 4,[.t 34,.t 35]⟩,
  ⟨some (28,false),some 37,false,.fadr 1,[.t 36]⟩,
  ⟨some (28,false),some 38,false,.ld 1 false,[.t 37]⟩,
  ⟨some (28,false),some 39,false,.bin .neq,[.t 33,.t 38]⟩,
  ⟨none,some 40,false,.pick,[.t 28,.c (.bool true),.t 39]⟩,
  ⟨none,some 41,false,.mv,[.t 40]⟩,
  ⟨some (41,false),some 42,false,.mv,[.t 0]⟩,
  ⟨some (41,false),some 43,false,.mv,[.t 5]⟩,
  ⟨some (41,false),some 44,false,.iadr 4,[.t 42,.t 43]⟩,
  ⟨some (41,false),some 45,false,.fadr 2,[.t 44]⟩,
  ⟨some (41,false),some 46,false,.ld 1 false,[.t 45]⟩,
  ⟨some (41,false),some 47,false,.mv,[.t 1]⟩,
  ⟨some (41,false),some 48,false,.mv,[.t 5]⟩,
  ⟨some (41,false),some 49,false,.iadr 4,[.t 47,.t 48]⟩,
  ⟨some (41,false),some 50,false,.fadr 2,[.t 49]⟩,
  ⟨some (41,false),some 51,false,.ld 1 false,[.t 50]⟩,
  ⟨some (41,false),some 52,false,.bin .neq,[.t 46,.t 51]⟩,
  ⟨none,some 53,false,.pick,[.t 41,.c (.bool true),.t 52]⟩,
  ⟨none,some 54,false,.mv,[.t 53]⟩,
  ⟨some (54,false),some 55,false,.mv,[.t 0]⟩,
  ⟨some (54,false),some 56,false,.mv,[.t 5]⟩,
  ⟨some (54,false),some 57,false,.iadr 4,[.t 55,.t 56]⟩,
  ⟨some (54,false),some 58,false,.fadr 3,[.t 57]⟩,
  ⟨some (54,false),some 59,false,.ld 1 false,[.t 58]⟩,
  ⟨some (54,false),some 60,false,.mv,[.t 1]⟩,
  ⟨some (54,false),some 61,false,.mv,[.t 5]⟩,
  ⟨some (54,false),some 62,false,.iadr 4,[.t 60,.t 61]⟩,
  ⟨some (54,false),some 63,false,.fadr 3,[.t 62]⟩,
  ⟨some (54,false),some 64,false,.ld 1 false,[.t 63]⟩,
  ⟨some (54,false),some 65,false,.call Fn.q55,[.t 59,.t 64]⟩,
  ⟨some (54,false),some 66,false,.un .not,[.t 65]⟩,
  ⟨none,some 67,false,.pick,[.t 54,.c (.bool true),.t 66]⟩])
 (.ite (.t 67)
  (.seq (.reg [
   ⟨none,some 4,true,.mv,[.c (.bool false)]⟩])
  .ret)
  .skip)))
 (.reg [
  ⟨none,some 15,false,.mv,[.t 5]⟩,
  ⟨none,some 16,false,.bin .add,[.t 15,.c (.int .i64 1)]⟩,
  ⟨none,some 5,true,.mv,[.t 16]⟩])))
def Mc.q22 : MC := (.seq (.reg [
  ⟨none,some 4,true,.mv,[.c (.bool false)]⟩])
 (.seq (.seq (.reg [
  ⟨none,some 6,false,.mv,[.t 0]⟩,
  ⟨none,some 7,false,.len 1,[.t 6]⟩,
  ⟨none,some 8,false,.mv,[.t 1]⟩,
  ⟨none,some 9,false,.len 1,[.t 8]⟩,
  ⟨none,some 10,false,.bin .neq,[.t 7,.t 9]⟩])
 (.ite (.t 10)
  (.seq (.reg [
   ⟨none,some 4,true,.mv,[.c (.bool false)]⟩])
  .ret)
  .skip))
 (.seq (.seq (.reg [
  ⟨none,some 5,true,.mv,[.c (.int .i64 0)]⟩])
 (.blk 0 (.loop [] Mc.q22_L0)))
 (.seq (.reg [
  ⟨none,some 4,true,.mv,[.c (.bool true)]⟩])
 .ret))))
def Ks.q66 : List Nat := [0,2]
def Rs.q66 : List RV := [.tmp 2]
def Dl.q66 : List (List Nat) := []
def Mc.q66 : MC := (.seq (.reg [
  ⟨none,some 2,true,.mv,[.c (.bool false)]⟩])
 (.seq (.reg [
  ⟨none,some 3,false,.mv,[.t 0]⟩,
  ⟨none,some 4,false,.len 1,[.t 3]⟩,
  ⟨none,some 5,false,.bin .neq,[.t 4,.c (.int .i64 3)]⟩,
  ⟨none,some 2,true,.mv,[.t 5]⟩])
 .ret))
def Ks.q37 : List Nat := [0,1,4,5]
def Rs.q37 : List RV := [.tmp 4,.tmp 5]
def Dl.q37 : List (List Nat) := []
def Mc.q37 : MC := (.seq (.reg [
  ⟨none,some 4,true,.mv,[.c (.str [])]⟩,
  ⟨none,some 5,true,.mv,[.c (.bool false)]⟩])
 (.seq (.reg [
  ⟨none,some 6,false,.mv,[.t 0]⟩,
  ⟨none,some 7,false,.mv,[.t 1]⟩,
  ⟨none,some 8,false,.call Fn.q19,[.t 6,.t 7]⟩,
  ⟨none,some 9,false,.ext 0,[.t 8]⟩,
  ⟨none,some 10,false,.ext 1,[.t 8]⟩,
  ⟨none,some 4,true,.mv,[.t 9]⟩,
  ⟨none,some 5,true,.mv,[.t 10]⟩])
 .ret))
def Ks.q46 : List Nat := [0,2,3,4]
def Rs.q46 : List RV := [.tmp 2,.tmp 3]
def Dl.q46 : List (List Nat) := [[]]
def Mc.q46_L0 : MC := (.seq (.seq (.reg [
  ⟨none,some 5,false,.mv,[.t 4]⟩,
  ⟨none,some 6,false,.mv,[.t 0]⟩,
  ⟨none,some 7,false,.len 0,[.t 6]⟩,
  ⟨none,some 8,false,.bin .lss,[.t 5,.t 7]⟩])
 (.ite (.t 8)
  .skip
  (.exit 0)))
 (.seq (.blk 1 (.seq (.reg [
  ⟨none,some 11,false,.mv,[.t 0]⟩,
  ⟨none,some 12,false,.mv,[.t 4]⟩,
  ⟨none,some 13,false,.istr,[.t 11,.t 12]⟩,
  ⟨none,some 14,false,.bin .eql,[.t 13,.c (.int .u8 47)]⟩])
 (.ite (.t 14)
  (.seq (.rgd [
   ⟨none,some 15,false,.mv,[.t 0]⟩,
   ⟨none,some 16,false,.mv,[.t 4]⟩,
   ⟨none,some 17,false,.slc none false true false,[.t 15,.t 16]⟩,
   ⟨none,some 18,false,.mv,[.t 0]⟩,
   ⟨none,some 19,false,.mv,[.t 4]⟩,
   ⟨none,some 20,false,.bin .add,[.t 19,.c (.int .i64 1)]⟩,
   ⟨none,some 21,false,.slc none true false false,[.t 18,.t 20]⟩,
   ⟨none,some 2,true,.mv,[.t 17]⟩,
   ⟨none,some 3,true,.mv,[.t 21]⟩])
  .ret)
  .skip)))
 (.reg [
  ⟨none,some 9,false,.mv,[.t 4]⟩,
  ⟨none,some 10,false,.bin .add,[.t 9,.c (.int .i64 1)]⟩,
  ⟨none,some 4,true,.mv,[.t 10]⟩])))
def Mc.q46 : MC := (.seq (.reg [
  ⟨none,some 2,true,.mv,[.c (.str [])]⟩,
  ⟨none,some 3,true,.mv,[.c (.str [])]⟩])
 (.seq (.seq (.reg [
  ⟨none,some 4,true,.mv,[.c (.int .i64 0)]⟩])
 (.blk 0 (.loop [] Mc.q46_L0)))
 (.seq (.reg [
  ⟨none,some 22,false,.mv,[.t 0]⟩,
  ⟨none,some 2,true,.mv,[.t 22]⟩,
  ⟨none,some 3,true,.mv,[.c (.str [])]⟩])
 .ret)))
def Ks.build_part : List Nat := [0,2]
def Rs.build_part : List RV := [.tmp 2]
def Dl.build_part : List (List Nat) := []
def Mc.build_part : MC := (.seq (.reg [
  ⟨none,some 2,true,.mv,[.c (.bool false)]⟩])
 (.seq (.reg [
  ⟨none,some 3,false,.mv,[.t 0]⟩,
  ⟨none,some 4,false,.call Fn.q51,[.t 3,.c (.str [47])]⟩,
  ⟨none,some 5,false,.un .not,[.t 4]⟩,
  ⟨none,some 6,false,.mv,[.t 5]⟩,
  ⟨some (6,true),some 7,false,.mv,[.t 0]⟩,
  ⟨some (6,true),some 8,false,.call Fn.tree_Path,[.t 7]⟩,
  ⟨some (6,true),some 9,false,.bin .eql,[.t 8,.c (.int .i64 0)]⟩,
  ⟨none,some 10,false,.pick,[.t 6,.t 9,.c (.bool false)]⟩,
  ⟨none,some 2,true,.mv,[.t 10]⟩])
 .ret))
def Ks.q67 : List Nat := [0,1,2,3]
def Rs.q67 : List RV := [.tmp 3]
def Dl.q67 : List (List Nat) := []
def Mc.q67 : MC := (.seq (.reg [
  ⟨none,some 2,true,.box,[.t 0]⟩,
  ⟨none,some 3,true,.mv,[.c (.bool false)]⟩])
 (.seq (.reg [
  ⟨none,some 4,false,.fadr 0,[.t 2]⟩,
  ⟨none,some 5,false,.ld 1 false,[.t 4]⟩,
  ⟨none,some 6,false,.fadr 0,[.t 1]⟩,
  ⟨none,some 7,false,.ld 1 false,[.t 6]⟩,
  ⟨none,some 8,false,.bin .eql,[.t 5,.t 7]⟩,
  ⟨none,some 3,true,.mv,[.t 8]⟩])
 .ret))
def Ks.q68 : List Nat := [0,1,2,3]
def Rs.q68 : List RV := [.tmp 3]
def Dl.q68 : List (List Nat) := []
def Mc.q68 : MC := (.seq (.reg [
  ⟨none,some 2,true,.box,[.t 0]⟩,
  ⟨none,some 3,true,.mv,[.c (.bool false)]⟩])
 (.seq (.reg [
  ⟨none,some 4,false,.fadr 0,[.t 1]⟩,
  ⟨none,some 5,false,.ld 1 false,[.t 4]⟩,
  ⟨none,some 6,false,.bin .add,[.t 5,.c (.str [47])]⟩,
  ⟨none,some 7,false,.fadr 0,[.t 2]⟩,
  ⟨none,some 8,false,.ld 1 false,[.t 7]⟩,
  ⟨none,some 9,false,.bin .add,[.t 6,.t 8]⟩,
  ⟨none,some 10,false,.call Fn.tree_Path,[.t 9]⟩,
  ⟨none,some 11,false,.bin .neq,[.t 10,.c (.int .i64 0)]⟩,
  ⟨none,some 3,true,.mv,[.t 11]⟩])
 .ret))
def Ks.tree_Find : List Nat := [0,1,4,5,6]
def Rs.tree_Find : List RV := [.tmp 4,.tmp 5]
def Dl.tree_Find : List (List Nat) := []
def Mc.tree_Find : MC := (.seq (.reg [
  ⟨none,some 4,true,.mv,[.c (.str [])]⟩,
  ⟨none,some 5,true,.mv,[.c (.bool false)]⟩])
 (.seq (.seq (.reg [
  ⟨none,some 7,false,.mv,[.t 0]⟩,
  ⟨none,some 8,false,.mv,[.t 1]⟩,
  ⟨none,some 9,false,.call Fn.tree_index,[.t 7,.t 8]⟩,
  ⟨none,some 6,true,.mv,[.t 9]⟩])
 (.seq (.reg [
  ⟨none,some 10,false,.mv,[.t 6]⟩,
  ⟨none,some 11,false,.bin .geq,[.t 10,.c (.int .i64 0)]⟩])
 (.ite (.t 11)
  (.seq (.reg [
   ⟨none,some 12,false,.mv,[.t 0]⟩,
   ⟨none,some 13,false,.mv,[.t 6]⟩,
   ⟨none,some 14,false,.iadr 2,[.t 12,.t 13]⟩,
   ⟨none,some 15,false,.fadr 1,[.t 14]⟩,
   ⟨none,some 16,false,.ld 1 false,[.t 15]⟩,
   ⟨none,some 4,true,.mv,[.t 16]⟩,
   ⟨none,some 5,true,.mv,[.c (.bool true)]⟩])
  .ret)
  .skip)))
 (.seq (.reg [
  ⟨none,some 4,true,.mv,[.c (.str [])]⟩,
  ⟨none,some 5,true,.mv,[.c (.bool false)]⟩])
 .ret)))
def Ks.q62 : List Nat := [0,1,4,6,7,8,9]
def Rs.q62 : List RV := [.tmp 4]
def Dl.q62 : List (List Nat) := [[6]]
def Mc.q62_L0 : MC := (.seq (.reg [
  ⟨none,some 10,false,.bin .lss,[.t 9,.t 8]⟩])
 (.seq (.ite (.t 10)
  .skip
  (.exit 0))
 (.seq (.blk 1 (.seq (.reg [
  ⟨none,some 11,false,.iadr 1,[.t 7,.t 9]⟩,
  ⟨none,some 12,false,.ld 1 false,[.t 11]⟩,
  ⟨none,some 6,true,.mv,[.t 12]⟩])
 (.seq (.reg [
  ⟨none,some 13,false,.mv,[.t 6]⟩,
  ⟨none,some 14,false,.mv,[.t 1]⟩,
  ⟨none,some 15,false,.bin .eql,[.t 13,.t 14]⟩])
 (.ite (.t 15)
  (.seq (.reg [
   ⟨none,some 4,true,.mv,[.c (.bool true)]⟩])
  .ret)
  .skip))))
 (.reg [
  ⟨none,some 16,false,.bin .add,[.t 9,.c (.int .i64 1)]⟩,
  ⟨none,some 9,true,.mv,[.t 16]⟩]))))
def Mc.q62 : MC := (.seq (.reg [
  ⟨none,some 4,true,.mv,[.c (.bool false)]⟩])
 (.seq (.seq (.reg [
  ⟨none,some 7,true,.mv,[.t 0]⟩,
  ⟨none,some 8,true,.len 1,[.t 7]⟩,
  ⟨none,some 9,true,.mv,[.c (.int .i64 0)]⟩])
 (.blk 0 (.loop [6] Mc.q62_L0)))
 (.seq (.reg [
  ⟨none,some 4,true,.mv,[.c (.bool false)]⟩])
 .ret)))
def Ks.q47 : List Nat := [0,1,4,5,6,8,15,16,17]
def Rs.q47 : List RV := [.tmp 4,.tmp 5]
def Dl.q47 : List (List Nat) := [[8]]
def Mc.q47_L0 : MC := (.seq (.reg [
  ⟨none,some 18,false,.bin .lss,[.t 17,.t 16]⟩])
 (.seq (.ite (.t 18)
  .skip
  (.exit 0))
 (.seq (.blk 1 (.seq (.reg [
  ⟨none,some 19,false,.iadr 2,[.t 15,.t 17]⟩,
  ⟨none,some 20,false,.ld 2 true,[.t 19]⟩,
  ⟨none,some 8,true,.alloc [.str [],.str []],[]⟩,
  ⟨none,none,false,.st 2,[.t 8,.t 20]⟩])
 (.seq (.seq (.reg [
  ⟨none,some 21,false,.mv,[.t 1]⟩,
  ⟨none,some 22,false,.bin .add,[.t 21,.c (.str [47])]⟩,
  ⟨none,some 23,false,.fadr 0,[.t 8]⟩,
  ⟨none,some 24,false,.ld 1 false,[.t 23]⟩,
  ⟨none,some 25,false,.bin .add,[.t 22,.t 24]⟩,
  ⟨none,some 26,false,.call Fn.q57,[.t 25]⟩,
  ⟨none,some 27,false,.bin .neq,[.t 26,.c (.int .i64 0)]⟩])
 (.ite (.t 27)
  (.seq (.reg [
   ⟨none,some 4,true,.newnil 2,[]⟩,
   ⟨none,some 5,true,.mv,[.c (.int .i64 2)]⟩])
  .ret)
  .skip))
 (.reg [
  ⟨none,some 28,false,.mv,[.t 6]⟩,
  ⟨none,some 29,false,.mv,[.t 1]⟩,
  ⟨none,some 30,false,.bin .add,[.t 29,.c (.str [47])]⟩,
  ⟨none,some 31,false,.fadr 0,[.t 8]⟩,
  ⟨none,some 32,false,.ld 1 false,[.t 31]⟩,
  ⟨none,some 33,false,.bin .add,[.t 30,.t 32]⟩,
  ⟨none,some 34,false,.fadr 1,[.t 8]⟩,
  ⟨none,some 35,false,.ld 1 false,[.t 34]⟩,
  ⟨none,some 36,false,.bld [.str [],.str []] [(0,1),(1,1)],[.t 33,.t 35]⟩,
  ⟨none,some 37,false,.bsl false 2,[.t 36]⟩,
  ⟨none,some 38,false,.app false 2 32,[.t 28,.t 37]⟩,
  ⟨none,some 6,true,.mv,[.t 38]⟩]))))
 (.reg [
  ⟨none,some 39,false,.bin .add,[.t 17,.c (.int .i64 1)]⟩,
  ⟨none,some 17,true,.mv,[.t 39]⟩]))))
def Mc.q47 : MC := (.seq (.reg [
  ⟨none,some 4,true,.newnil 2,[]⟩,
  ⟨none,some 5,true,.mv,[.c (.int .i64 0)]⟩])
 (.seq (.seq (.reg [
  ⟨none,some 9,false,.mv,[.t 0]⟩,
  ⟨none,some 10,false,.call Fn.q44,[.t 9]⟩,
  ⟨none,some 11,false,.bin .neq,[.t 10,.c (.int .i64 0)]⟩])
 (.ite (.t 11)
  (.seq (.reg [
   ⟨none,some 4,true,.newnil 2,[]⟩,
   ⟨none,some 5,true,.mv,[.c (.int .i64 1)]⟩])
  .ret)
  .skip))
 (.seq (.seq (.reg [
  ⟨none,some 12,false,.mv,[.t 1]⟩,
  ⟨none,some 13,false,.call Fn.q57,[.t 12]⟩,
  ⟨none,some 14,false,.bin .neq,[.t 13,.c (.int .i64 0)]⟩])
 (.ite (.t 14)
  (.seq (.reg [
   ⟨none,some 4,true,.newnil 2,[]⟩,
   ⟨none,some 5,true,.mv,[.c (.int .i64 2)]⟩])
  .ret)
  .skip))
 (.seq (.reg [
  ⟨none,some 6,true,.newnil 2,[]⟩])
 (.seq (.seq (.reg [
  ⟨none,some 15,true,.mv,[.t 0]⟩,
  ⟨none,some 16,true,.len 1,[.t 15]⟩,
  ⟨none,some 17,true,.mv,[.c (.int .i64 0)]⟩])
 (.blk 0 (.loop [8] Mc.q47_L0)))
 (.seq (.reg [
  ⟨none,some 40,false,.mv,[.t 6]⟩,
  ⟨none,some 4,true,.mv,[.t 40]⟩,
  ⟨none,some 5,true,.mv,[.c (.int .i64 0)]⟩])
 .ret))))))
def Ks.q60 : List Nat := [0,1,4,5,7,8,9,10]
def Rs.q60 : List RV := [.tmp 4,.tmp 5]
def Dl.q60 : List (List Nat) := [[7]]
def Mc.q60_L0 : MC := (.seq (.reg [
  ⟨none,some 11,false,.bin .lss,[.t 10,.t 9]⟩])
 (.seq (.ite (.t 11)
  .skip
  (.exit 0))
 (.seq (.blk 1 (.seq (.reg [
  ⟨none,some 12,false,.iadr 2,[.t 8,.t 10]⟩,
  ⟨none,some 13,false,.ld 2 true,[.t 12]⟩,
  ⟨none,some 7,true,.alloc [.str [],.str []],[]⟩,
  ⟨none,none,false,.st 2,[.t 7,.t 13]⟩])
 (.seq (.reg [
  ⟨none,some 14,false,.fadr 0,[.t 7]⟩,
  ⟨none,some 15,false,.ld 1 false,[.t 14]⟩,
  ⟨none,some 16,false,.mv,[.t 1]⟩,
  ⟨none,some 17,false,.bin .eql,[.t 15,.t 16]⟩])
 (.ite (.t 17)
  (.seq (.reg [
   ⟨none,some 18,false,.fadr 1,[.t 7]⟩,
   ⟨none,some 19,false,.ld 1 false,[.t 18]⟩,
   ⟨none,some 4,true,.mv,[.t 19]⟩,
   ⟨none,some 5,true,.mv,[.c (.bool true)]⟩])
  .ret)
  .skip))))
 (.reg [
  ⟨none,some 20,false,.bin .add,[.t 10,.c (.int .i64 1)]⟩,
  ⟨none,some 10,true,.mv,[.t 20]⟩]))))
def Mc.q60 : MC := (.seq (.reg [
  ⟨none,some 4,true,.mv,[.c (.str [])]⟩,
  ⟨none,some 5,true,.mv,[.c (.bool false)]⟩])
 (.seq (.seq (.reg [
  ⟨none,some 8,true,.mv,[.t 0]⟩,
  ⟨none,some 9,true,.len 1,[.t 8]⟩,
  ⟨none,some 10,true,.mv,[.c (.int .i64 0)]⟩])
 (.blk 0 (.loop [7] Mc.q60_L0)))
 (.seq (.reg [
  ⟨none,some 4,true,.mv,[.c (.str [])]⟩,
  ⟨none,some 5,true,.mv,[.c (.bool false)]⟩])
 .ret)))
def Ks.q19 : List Nat := [0,1,4,5]
def Rs.q19 : List RV := [.tmp 4,.tmp 5]
def Dl.q19 : List (List Nat) := []
def Mc.q19 : MC := (.seq (.reg [
  ⟨none,some 4,true,.mv,[.c (.str [])]⟩,
  ⟨none,some 5,true,.mv,[.c (.bool false)]⟩])
 (.seq (.seq (.reg [
  ⟨none,some 6,false,.mv,[.t 0]⟩,
  ⟨none,some 7,false,.mv,[.t 1]⟩,
  ⟨none,some 8,false,.call Fn.q20,[.t 6,.t 7]⟩,
  ⟨none,some 9,false,.un .not,[.t 8]⟩])
 (.ite (.t 9)
  (.seq (.reg [
   ⟨none,some 10,false,.mv,[.t 0]⟩,
   ⟨none,some 4,true,.mv,[.t 10]⟩,
   ⟨none,some 5,true,.mv,[.c (.bool false)]⟩])
  .ret)
  .skip))
 (.seq (.reg [
  ⟨none,some 11,false,.mv,[.t 0]⟩,
  ⟨none,some 12,false,.mv,[.t 1]⟩,
  ⟨none,some 13,false,.len 0,[.t 12]⟩,
  ⟨none,some 14,false,.slc none true false false,[.t 11,.t 13]⟩,
  ⟨none,some 4,true,.mv,[.t 14]⟩,
  ⟨none,some 5,true,.mv,[.c (.bool true)]⟩])
 .ret)))
def Ks.tree_index : List Nat := [0,1,3,4]
def Rs.tree_index : List RV := [.tmp 4]
def Dl.tree_index : List (List Nat) := []
def Mc.tree_index : MC := (.seq (.reg [
  ⟨none,some 3,true,.box,[.t 1]⟩,
  ⟨none,some 4,true,.mv,[.c (.int .i64 0)]⟩])
 (.seq (.reg [
  ⟨none,some 5,false,.mv,[.t 0]⟩,
  ⟨none,some 6,false,.mkfn Fn.q76,[.t 3]⟩,
  ⟨none,some 7,false,.call Fn.q15,[.t 5,.t 6]⟩,
  ⟨none,some 4,true,.mv,[.t 7]⟩])
 .ret))
def Ks.q76 : List Nat := [0,1,2,3]
def Rs.q76 : List RV := [.tmp 3]
def Dl.q76 : List (List Nat) := []
def Mc.q76 : MC := (.seq (.reg [
  ⟨none,some 2,true,.box,[.t 0]⟩,
  ⟨none,some 3,true,.mv,[.c (.bool false)]⟩])
 (.seq (.reg [
  ⟨none,some 4,false,.fadr 0,[.t 2]⟩,
  ⟨none,some 5,false,.ld 1 false,[.t 4]⟩,
  ⟨none,some 6,false,.ld 1 false,[.t 1]⟩,
  ⟨none,some 7,false,.bin .eql,[.t 5,.t 6]⟩,
  ⟨none,some 3,true,.mv,[.t 7]⟩])
 .ret))
def Ks.q11 : List Nat := [0,1,4]
def Rs.q11 : List RV := [.tmp 4]
def Dl.q11 : List (List Nat) := []
def Mc.q11 : MC := (.seq (.reg [
  ⟨none,some 4,true,.mv,[.c (.bool false)]⟩])
 (.seq (.reg [
  ⟨none,some 5,false,.mv,[.t 0]⟩,
  ⟨none,some 6,false,.mv,[.t 1]⟩,
  ⟨none,some 7,false,.call Fn.q13,[.t 5,.t 6]⟩,
  ⟨none,some 8,false,.bin .geq,[.t 7,.c (.int .i64 0)]⟩,
  ⟨none,some 4,true,.mv,[.t 8]⟩])
 .ret))
def Ks.q9 : List Nat := [0,1,4]
def Rs.q9 : List RV := [.tmp 4]
def Dl.q9 : List (List Nat) := []
def Mc.q9 : MC := (.seq (.reg [
  ⟨none,some 4,true,.mv,[.c (.bool false)]⟩])
 (.seq (.reg [
  ⟨none,some 5,false,.mv,[.t 0]⟩,
  ⟨none,some 6,false,.mv,[.t 1]⟩,
  ⟨none,some 7,false,.call Fn.q10,[.t 5,.t 6]⟩,
  ⟨none,some 8,false,.bin .geq,[.t 7,.c (.int .i64 0)]⟩,
  ⟨none,some 4,true,.mv,[.t 8]⟩])
 .ret))
def Ks.q13 : List Nat := [0,1,4,5,7,8]
def Rs.q13 : List RV := [.tmp 4]
def Dl.q13 : List (List Nat) := [[5]]
def Mc.q13_L0 : MC := (.seq (.reg [
  ⟨none,some 9,false,.bin .lss,[.t 8,.t 7]⟩])
 (.seq (.ite (.t 9)
  .skip
  (.exit 0))
 (.seq (.blk 1 (.seq (.reg [
  ⟨none,some 10,false,.mv,[.t 8]⟩,
  ⟨none,some 5,true,.mv,[.t 10]⟩])
 (.seq (.reg [
  ⟨none,some 11,false,.mv,[.t 1]⟩,
  ⟨none,some 12,false,.mv,[.t 0]⟩,
  ⟨none,some 13,false,.mv,[.t 5]⟩,
  ⟨none,some 14,false,.iadr 1,[.t 12,.t 13]⟩,
  ⟨none,some 15,false,.ld 1 false,[.t 14]⟩,
  ⟨none,some 16,false,.callv,[.t 11,.t 15]⟩])
 (.ite (.t 16)
  (.seq (.reg [
   ⟨none,some 17,false,.mv,[.t 5]⟩,
   ⟨none,some 4,true,.mv,[.t 17]⟩])
  .ret)
  .skip))))
 (.reg [
  ⟨none,some 18,false,.bin .add,[.t 8,.c (.int .i64 1)]⟩,
  ⟨none,some 8,true,.mv,[.t 18]⟩]))))
def Mc.q13 : MC := (.seq (.reg [
  ⟨none,some 4,true,.mv,[.c (.int .i64 0)]⟩])
 (.seq (.seq (.reg [
  ⟨none,some 6,false,.mv,[.t 0]⟩,
  ⟨none,some 7,true,.len 1,[.t 6]⟩,
  ⟨none,some 8,true,.mv,[.c (.int .i64 0)]⟩])
 (.blk 0 (.loop [5] Mc.q13_L0)))
 (.seq (.reg [
  ⟨none,some 4,true,.mv,[.c (.int .i64 (-1))]⟩])
 .ret)))
def Ks.q10 : List Nat := [0,1,4,5,7,8]
def Rs.q10 : List RV := [.tmp 4]
def Dl.q10 : List (List Nat) := [[5]]
def Mc.q10_L0 : MC := (.seq (.reg [
  ⟨none,some 9,false,.bin .lss,[.t 8,.t 7]⟩])
 (.seq (.ite (.t 9)
  .skip
  (.exit 0))
 (.seq (.blk 1 (.seq (.reg [
  ⟨none,some 10,false,.mv,[.t 8]⟩,
  ⟨none,some 5,true,.mv,[.t 10]⟩])
 (.seq (.reg [
  ⟨none,some 11,false,.mv,[.t 1]⟩,
  ⟨none,some 12,false,.mv,[.t 0]⟩,
  ⟨none,some 13,false,.mv,[.t 5]⟩,
  ⟨none,some 14,false,.iadr 4,[.t 12,.t 13]⟩,
  ⟨none,some 15,false,.ld 4 true,[.t 14]⟩,
  ⟨none,some 16,false,.callv,[.t 11,.t 15]⟩])
 (.ite (.t 16)
  (.seq (.reg [
   ⟨none,some 17,false,.mv,[.t 5]⟩,
   ⟨none,some 4,true,.mv,[.t 17]⟩])
  .ret)
  .skip))))
 (.reg [
  ⟨none,some 18,false,.bin .add,[.t 8,.c (.int .i64 1)]⟩,
  ⟨none,some 8,true,.mv,[.t 18]⟩]))))
def Mc.q10 : MC := (.seq (.reg [
  ⟨none,some 4,true,.mv,[.c (.int .i64 0)]⟩])
 (.seq (.seq (.reg [
  ⟨none,some 6,false,.mv,[.t 0]⟩,
  ⟨none,some 7,true,.len 1,[.t 6]⟩,
  ⟨none,some 8,true,.mv,[.c (.int .i64 0)]⟩])
 (.blk 0 (.loop [5] Mc.q10_L0)))
 (.seq (.reg [
  ⟨none,some 4,true,.mv,[.c (.int .i64 (-1))]⟩])
 .ret)))
def Ks.q28 : List Nat := [0,1,4,5,6,7,8]
def Rs.q28 : List RV := [.tmp 4]
def Dl.q28 : List (List Nat) := []
def Mc.q28 : MC := (.seq (.reg [
  ⟨none,some 4,true,.mv,[.c (.bool false)]⟩])
 (.seq (.seq (.reg [
  ⟨none,some 9,false,.call Fn.q42,[]⟩,
  ⟨none,some 10,false,.un .not,[.t 9]⟩,
  ⟨none,some 11,false,.mv,[.t 10]⟩,
  ⟨some (11,false),some 12,false,.mv,[.t 0]⟩,
  ⟨some (11,false),some 13,false,.len 0,[.t 12]⟩,
  ⟨some (11,false),some 14,false,.bin .gtr,[.t 13,.c (.int .i64 1000)]⟩,
  ⟨none,some 15,false,.pick,[.t 11,.c (.bool true),.t 14]⟩,
  ⟨none,some 16,false,.mv,[.t 15]⟩,
  ⟨some (16,false),some 17,false,.mv,[.t 1]⟩,
  ⟨some (16,false),some 18,false,.call Fn.q61,[.t 17,.c (.int .i64 24),.c (.int .i64 4000)]⟩,
  ⟨some (16,false),some 19,false,.un .not,[.t 18]⟩,
  ⟨none,some 20,false,.pick,[.t 16,.c (.bool true),.t 19]⟩])
 (.ite (.t 20)
  (.seq (.reg [
   ⟨none,some 21,false,.call Fn.q42,[]⟩,
   ⟨none,some 4,true,.mv,[.t 21]⟩])
  .ret)
  .skip))
 (.seq (.reg [
  ⟨none,some 23,false,.mv,[.t 0]⟩,
  ⟨none,some 24,false,.mv,[.t 1]⟩,
  ⟨none,some 25,false,.call Fn.bundle_Join,[.t 23,.t 24]⟩,
  ⟨none,some 22,false,.mv,[.t 25]⟩,
  ⟨none,some 26,false,.ext 0,[.t 22]⟩,
  ⟨none,some 27,false,.ext 1,[.t 22]⟩,
  ⟨none,some 5,true,.mv,[.t 26]⟩,
  ⟨none,some 6,true,.mv,[.t 27]⟩])
 (.seq (.reg [
  ⟨none,some 29,false,.mv,[.t 0]⟩,
  ⟨none,some 30,false,.mv,[.t 1]⟩,
  ⟨none,some 31,false,.call Fn.q56,[.t 29,.t 30]⟩,
  ⟨none,some 28,false,.mv,[.t 31]⟩,
  ⟨none,some 32,false,.ext 0,[.t 28]⟩,
  ⟨none,some 33,false,.ext 1,[.t 28]⟩,
  ⟨none,some 7,true,.mv,[.t 32]⟩,
  ⟨none,some 8,true,.mv,[.t 33]⟩])
 (.seq (.reg [
  ⟨none,some 34,false,.mv,[.t 6]⟩,
  ⟨none,some 35,false,.mv,[.t 8]⟩,
  ⟨none,some 36,false,.bin .eql,[.t 34,.t 35]⟩,
  ⟨none,some 37,false,.mv,[.t 36]⟩,
  ⟨some (37,true),some 38,false,.mv,[.t 5]⟩,
  ⟨some (37,true),some 39,false,.mv,[.t 7]⟩,
  ⟨some (37,true),some 40,false,.call Fn.q22,[.t 38,.t 39]⟩,
  ⟨none,some 41,false,.pick,[.t 37,.t 40,.c (.bool false)]⟩,
  ⟨none,some 4,true,.mv,[.t 41]⟩])
 .ret)))))
end Go.Proofs.YtopiadllkglamaaGreatDoor
namespace Go.Proofs.YtopiadllkglamaaGreatDoor
open Go.RowKit Go.IntWalk
structure Pkg where
 name : Bs
 ver : Bs
 rcp : Bs
 tree : List Touch
def fullT (n : Bs) (f : Touch) : Touch := ⟨n ++ 47 :: f.path,f.dig⟩
def pkgE (seen : List Bs) (p : Pkg) : Int :=
 if (partOK p.name && partOK p.ver) = false then 2 else if seen.contains p.name then 6 else if treeE p.tree ≠ 0 then 1
 else if p.tree.any (fun f => !pathOK (p.name ++ 47 :: f.path)) then 2 else if p.tree.any (fun f => f.path == p.rcp) = false then 7 else 0
def distFrom (seen : List Bs) (n : Nat) : List Pkg → Int
 | [] => 0
 | p :: r => if pkgE seen p ≠ 0 then pkgE seen p else if 64 < n + p.tree.length then 10 else distFrom (seen ++ [p.name]) (n + p.tree.length) r
def distE (d : List Pkg) : Int := if 16 < d.length then 10 else distFrom [] 0 d
def pt (x : PD) : Touch := ⟨x.1,x.2⟩
def stripP (n : Bs) (f : Touch) : Option Touch := if (n ++ [47]).isPrefixOf f.path then some ⟨f.path.drop (n.length + 1),f.dig⟩ else none
def pkgOf (src : List Touch) (w : List Bs) : Pkg := ⟨w.getD 0 [],w.getD 1 [],w.getD 2 [],src.filterMap (stripP (w.getD 0 []))⟩
def totalD (d : List Pkg) : Nat := (d.map (·.tree.length)).sum
def joinE (text : Bs) (src : List Touch) : List Pkg × Int :=
 if treeE src ≠ 0 then ([],1) else match rowsE text with
 | none => ([],4)
 | some l => if l.any (fun w => decide (w.length ≠ 3)) then ([],4) else if distE (l.map (pkgOf src)) ≠ 0 then ([],1) else if totalD (l.map (pkgOf src)) ≠ src.length then ([],9) else (l.map (pkgOf src),0)
def firstB : Bs → Bs × Bs
 | [] => ([],[])
 | b :: r => if b = 47 then ([],r) else (b :: (firstB r).1,(firstB r).2)
def stripR (n : Bs) (f : Touch) : Option Touch := if (firstB f.path).1 = n ∧ (firstB f.path).2 ≠ [] then some ⟨(firstB f.path).2,f.dig⟩ else none
def pkgOfR (src : List Touch) (w : List Bs) : Pkg := ⟨w.getD 0 [],w.getD 1 [],w.getD 2 [],src.filterMap (stripR (w.getD 0 []))⟩
def joinR (text : Bs) (src : List Touch) : List Pkg × Int :=
 if treeE src ≠ 0 then ([],1) else match rowsE text with
 | none => ([],4)
 | some l => if l.any (fun w => decide (w.length ≠ 3)) then ([],4) else if distE (l.map (pkgOfR src)) ≠ 0 then ([],1) else if totalD (l.map (pkgOfR src)) ≠ src.length then ([],9) else (l.map (pkgOfR src),0)
theorem part_chars {s : Bs} (h : partOK s = true) : s ≠ [] ∧ ∀ b ∈ s,b ≠ 47 ∧ b ≠ 32 ∧ b ≠ 10 := by
 match s,h with
 | [],h => simp [partOK] at h
 | c :: r,h =>
  simp only [partOK,Bool.and_eq_true] at h
  refine ⟨by simp,fun b hb => ?_⟩
  have := List.all_eq_true.1 h.2 b hb
  refine ⟨?_,?_,?_⟩ <;> (intro e; subst e; revert this; decide)
theorem path_rest {n r : Bs} (hn : (47 : UInt8) ∉ n) (h : pathOK (n ++ 47 :: r) = true) : r ≠ [] := by
 intro e; subst e
 unfold pathOK at h
 simp only [Bool.and_eq_true] at h
 have := h.2
 rw [splitBy_mid 47 n [] hn] at this
 simp [splitBy,partOK] at this
theorem part_noslash {s : Bs} (h : partOK s = true) : (47 : UInt8) ∉ s := fun hm => ((part_chars h).2 47 hm).1 rfl
theorem prefix_iff {n p : Bs} : (n ++ [47]).isPrefixOf p = true ↔ ∃ r,p = n ++ 47 :: r := by
 rw [List.isPrefixOf_iff_prefix]
 constructor
 ·rintro ⟨r,rfl⟩; exact ⟨r,by simp⟩
 ·rintro ⟨r,rfl⟩; exact ⟨r,by simp⟩
theorem slash_one : ∀ {a b x y : Bs},(47 : UInt8) ∉ a → (47 : UInt8) ∉ b → a ++ 47 :: x = b ++ 47 :: y → a = b ∧ x = y
 | [],[],x,y,_,_,h => by simpa using h
 | [],c :: b,x,y,_,hb,h => by
  simp only [List.nil_append,List.cons_append,List.cons.injEq] at h
  exact absurd (by rw [← h.1]; simp) hb
 | c :: a,[],x,y,ha,_,h => by
  simp only [List.nil_append,List.cons_append,List.cons.injEq] at h
  exact absurd (by rw [h.1]; simp) ha
 | c :: a,d :: b,x,y,ha,hb,h => by
  simp only [List.cons_append,List.cons.injEq] at h
  obtain ⟨h1,h2⟩ := h
  obtain ⟨h3,h4⟩ := slash_one (fun e => ha (List.mem_cons_of_mem _ e)) (fun e => hb (List.mem_cons_of_mem _ e)) h2
  exact ⟨by rw [h1,h3],h4⟩
theorem firstB_mid : ∀ {a : Bs} (x : Bs),(47 : UInt8) ∉ a → firstB (a ++ 47 :: x) = (a,x)
 | [],x,_ => by simp [firstB]
 | c :: a,x,h => by
  have hc : ¬ c = 47 := fun e => h (by simp [e])
  have ih := firstB_mid (a := a) x (fun e => h (List.mem_cons_of_mem _ e))
  simp [firstB,hc,ih]
theorem firstB_none : ∀ {a : Bs},(47 : UInt8) ∉ a → firstB a = (a,[])
 | [],_ => rfl
 | c :: a,h => by
  have hc : ¬ c = 47 := fun e => h (by simp [e])
  have ih := firstB_none (a := a) (fun e => h (List.mem_cons_of_mem _ e))
  simp [firstB,hc,ih]
theorem slash_cases : ∀ p : Bs,(47 : UInt8) ∉ p ∨ ∃ a x,p = a ++ 47 :: x ∧ (47 : UInt8) ∉ a
 | [] => .inl (by simp)
 | c :: p => by
  by_cases hc : c = 47
  ·subst hc; exact .inr ⟨[],p,rfl,by simp⟩
  ·rcases slash_cases p with h | ⟨a,x,rfl,h⟩
   ·exact .inl (by simp [Ne.symm hc,h])
   ·exact .inr ⟨c :: a,x,rfl,by simp [Ne.symm hc,h]⟩
theorem stripP_mid (n x d : Bs) : stripP n ⟨n ++ 47 :: x,d⟩ = some ⟨x,d⟩ := by
 have h : (n ++ [47]).isPrefixOf (n ++ 47 :: x) = true := prefix_iff.2 ⟨x,rfl⟩
 unfold stripP
 rw [if_pos h]
 have : (n ++ 47 :: x).drop (n.length + 1) = x := by
  rw [← List.drop_drop,List.drop_left]; rfl
 simp only [this]
theorem stripP_none {n : Bs} {f : Touch} (h : ∀ r,f.path ≠ n ++ 47 :: r) : stripP n f = none := by
 unfold stripP
 rw [if_neg]
 intro e
 obtain ⟨r,hr⟩ := prefix_iff.1 e
 exact h r hr
theorem strip_eq {n : Bs} {f : Touch} (hn : partOK n = true) (hf : pathOK f.path = true) : stripP n f = stripR n f := by
 have hs := part_noslash hn
 obtain ⟨p,d⟩ := f
 simp only at hf
 rcases slash_cases p with h | ⟨a,x,rfl,h⟩
 ·rw [stripP_none (fun r e => h (by simp only at e; rw [e]; simp))]
  unfold stripR
  simp only
  rw [firstB_none h]; simp
 ·unfold stripR
  simp only
  rw [firstB_mid x h]
  have hx := path_rest h hf
  by_cases e : a = n
  ·subst e
   rw [stripP_mid,if_pos ⟨rfl,hx⟩]
  ·rw [stripP_none (fun r e2 => e (slash_one h hs e2).1),if_neg (fun h2 => e h2.1)]
def before (a b : Touch) : Prop := a.path < b.path ∧ belowE b.path a.path = false
theorem treeFrom_iff : ∀ (t pre : List Touch),pre.Pairwise before → (treeFrom pre t = 0 ↔ (∀ f ∈ t,pathOK f.path = true ∧ f.dig.length ≤ 65536) ∧ (pre ++ t).Pairwise before)
 | [],pre,hp => by simp [treeFrom,hp]
 | f :: r,pre,hp => by
  rw [treeFrom]
  by_cases h1 : pathOK f.path = false
  ·rw [if_pos h1]
   constructor
   ·intro h; cases h
   ·rintro ⟨h,_⟩; have := (h f (by simp)).1; rw [h1] at this; cases this
  ·rw [if_neg h1]
   by_cases h2 : 65536 < f.dig.length
   ·rw [if_pos h2]
    constructor
    ·intro h; cases h
    ·rintro ⟨h,_⟩; have := (h f (by simp)).2; omega
   ·rw [if_neg h2]
    by_cases h3 : (pre.getLast?.map fun g => Op.bytesLess g.path f.path) = some false
    ·rw [if_pos h3]
     constructor
     ·intro h; cases h
     ·rintro ⟨_,h⟩
      obtain ⟨g,hg,hl⟩ := Option.map_eq_some_iff.1 h3
      have hb := (List.pairwise_append.1 h).2.2 g (List.mem_of_getLast? hg) f (by simp)
      rw [bytesLess_eq] at hl
      have := of_decide_eq_false hl
      exact absurd hb.1 this
    ·rw [if_neg h3]
     have hall : ∀ g ∈ pre,g.path < f.path := by
      intro g hg
      cases hl : pre.getLast? with
      | none => rw [List.getLast?_eq_none_iff] at hl; subst hl; cases hg
      | some z =>
       rw [hl] at h3
       have hz : z.path < f.path := by
        simp only [Option.map_some,Option.some.injEq] at h3
        rw [bytesLess_eq] at h3
        simpa using h3
       obtain ⟨ys,rfl⟩ := List.getLast?_eq_some_iff.1 hl
       rcases List.mem_append.1 hg with hg | hg
       ·exact List.lt_trans ((List.pairwise_append.1 hp).2.2 g hg z (by simp)).1 hz
       ·obtain rfl : g = z := by simpa using hg
        exact hz
     by_cases h4 : pre.any (fun g => belowE f.path g.path) = true
     ·rw [if_pos h4]
      constructor
      ·intro h; cases h
      ·rintro ⟨_,h⟩
       obtain ⟨g,hg,hb⟩ := List.any_eq_true.1 h4
       have := ((List.pairwise_append.1 h).2.2 g hg f (by simp)).2
       rw [hb] at this; cases this
     ·rw [if_neg h4]
      have hp2 : (pre ++ [f]).Pairwise before := by
       rw [List.pairwise_append]
       refine ⟨hp,by simp,fun a ha b hb => ?_⟩
       obtain rfl : b = f := by simpa using hb
       refine ⟨hall a ha,?_⟩
       cases hc : belowE b.path a.path with
       | false => rfl
       | true => exact absurd (List.any_eq_true.2 ⟨a,ha,hc⟩) h4
      rw [treeFrom_iff r (pre ++ [f]) hp2,List.append_assoc]
      simp only [List.singleton_append]
      constructor
      ·rintro ⟨a,b⟩
       refine ⟨fun g hg => ?_,b⟩
       rcases List.mem_cons.1 hg with rfl | hg
       ·exact ⟨by simpa using h1,by omega⟩
       ·exact a g hg
      ·rintro ⟨a,b⟩
       exact ⟨fun g hg => a g (List.mem_cons_of_mem _ hg),b⟩
theorem treeE_iff {t : List Touch} : treeE t = 0 ↔ t.length ≤ 64 ∧ (∀ f ∈ t,pathOK f.path = true ∧ f.dig.length ≤ 65536) ∧ t.Pairwise before := by
 unfold treeE
 by_cases h : 64 < t.length
 ·rw [if_pos h]
  constructor
  ·intro h; cases h
  ·rintro ⟨a,_⟩; omega
 ·rw [if_neg h,treeFrom_iff t [] .nil]
  simp only [List.nil_append]
  constructor
  ·rintro ⟨a,b⟩; exact ⟨by omega,a,b⟩
  ·rintro ⟨_,a,b⟩; exact ⟨a,b⟩
theorem below_lt : ∀ {a b : Bs},belowE b a = true → a < b := by
 intro a b h
 obtain ⟨r,rfl⟩ := prefix_iff.1 h
 induction a with
 | nil => simp
 | cons c a ih => simpa using ih (prefix_iff.2 ⟨r,rfl⟩)
theorem tree_below {t : List Touch} (h : treeE t = 0) {f g : Touch} (hf : f ∈ t) (hg : g ∈ t) : belowE f.path g.path = false := by
 obtain ⟨_,_,hp⟩ := treeE_iff.1 h
 cases hb : belowE f.path g.path with
 | false => rfl
 | true =>
  exfalso
  have hlt := below_lt hb
  obtain ⟨i,hi⟩ := List.mem_iff_getElem?.1 hf
  obtain ⟨j,hj⟩ := List.mem_iff_getElem?.1 hg
  obtain ⟨hi1,hi2⟩ := List.getElem?_eq_some_iff.1 hi
  obtain ⟨hj1,hj2⟩ := List.getElem?_eq_some_iff.1 hj
  have hpw := List.pairwise_iff_getElem.1 hp
  rcases Nat.lt_trichotomy i j with h1 | h1 | h1
  ·have := (hpw i j hi1 hj1 h1).1
   rw [hi2,hj2] at this
   exact List.lt_irrefl _ (List.lt_trans this hlt)
  ·subst h1
   rw [hi2] at hj2; subst hj2
   exact List.lt_irrefl _ hlt
  ·have := (hpw j i hj1 hi1 h1).2
   rw [hi2,hj2,hb] at this
   cases this
structure PkgOK (p : Pkg) : Prop where
 name : partOK p.name = true
 ver : partOK p.ver = true
 tree : treeE p.tree = 0
 path : ∀ f ∈ p.tree,pathOK (p.name ++ 47 :: f.path) = true
 rcp : ∃ f ∈ p.tree,f.path = p.rcp
theorem pkgE_ok {seen : List Bs} {p : Pkg} (h : pkgE seen p = 0) : PkgOK p ∧ p.name ∉ seen := by
 unfold pkgE at h
 split at h
 ·cases h
 ·rename_i h1
  split at h
  ·cases h
  ·rename_i h2
   split at h
   ·cases h
   ·rename_i h3
    split at h
    ·cases h
    ·rename_i h4
     split at h
     ·cases h
     ·rename_i h5
      simp only [Bool.not_eq_false,Bool.and_eq_true] at h1
      refine ⟨⟨h1.1,h1.2,by simpa using h3,fun f hf => ?_,?_⟩,fun hm => h2 (by simpa using hm)⟩
      ·cases hp : pathOK (p.name ++ 47 :: f.path) with
       | true => rfl
       | false => exact absurd (List.any_eq_true.2 ⟨f,hf,by simp [hp]⟩) h4
      ·simp only [Bool.not_eq_false] at h5
       obtain ⟨f,hf,hr⟩ := List.any_eq_true.1 h5
       exact ⟨f,hf,by simpa using hr⟩
theorem distFrom_ok : ∀ {d : List Pkg} {seen : List Bs} {n : Nat},n ≤ 64 → distFrom seen n d = 0 → (∀ p ∈ d,PkgOK p ∧ p.name ∉ seen) ∧ d.Pairwise (fun p q => p.name ≠ q.name) ∧ n + totalD d ≤ 64
 | [],seen,n,hn,_ => ⟨by simp,.nil,by simpa [totalD] using hn⟩
 | p :: r,seen,n,hn,h => by
  rw [distFrom] at h
  split at h
  ·rename_i h1; exact absurd h h1
  ·rename_i h1
   split at h
   ·cases h
   ·rename_i h2
    obtain ⟨k1,k2,k3⟩ := distFrom_ok (by omega) h
    obtain ⟨h3,h4⟩ := pkgE_ok (by simpa using h1)
    refine ⟨fun q hq => ?_,List.pairwise_cons.2 ⟨fun q hq e => (k1 q hq).2 (by simp [e]),k2⟩,?_⟩
    ·rcases List.mem_cons.1 hq with rfl | hq
     ·exact ⟨h3,h4⟩
     ·exact ⟨(k1 q hq).1,fun hm => (k1 q hq).2 (by simp [hm])⟩
    ·simp only [totalD,List.map_cons,List.sum_cons] at k3 ⊢; omega
theorem distE_ok {d : List Pkg} (h : distE d = 0) : d.length ≤ 16 ∧ (∀ p ∈ d,PkgOK p) ∧ d.Pairwise (fun p q => p.name ≠ q.name) ∧ totalD d ≤ 64 := by
 unfold distE at h
 split at h
 ·cases h
 ·obtain ⟨k1,k2,k3⟩ := distFrom_ok (by omega) h
  exact ⟨by omega,fun p hp => (k1 p hp).1,k2,by omega⟩
theorem pkgOf_eq {src : List Touch} (hs : treeE src = 0) {w : List Bs} (hw : partOK (w.getD 0 []) = true) : pkgOf src w = pkgOfR src w := by
 have h2 := (treeE_iff.1 hs).2.1
 unfold pkgOf pkgOfR
 congr 1
 clear hs
 induction src with
 | nil => rfl
 | cons f r ih =>
  simp only [List.filterMap_cons]
  rw [strip_eq hw (h2 f (by simp)).1,ih (fun g hg => h2 g (by simp [hg]))]
theorem distFrom_join {src : List Touch} (hs : treeE src = 0) : ∀ (l : List (List Bs)) (seen : List Bs) (n : Nat),distFrom seen n (l.map (pkgOf src)) = distFrom seen n (l.map (pkgOfR src)) ∧ (distFrom seen n (l.map (pkgOf src)) = 0 → l.map (pkgOf src) = l.map (pkgOfR src))
 | [],_,_ => ⟨rfl,fun _ => rfl⟩
 | w :: l,seen,n => by
  by_cases hw : partOK (w.getD 0 []) = true
  ·have e := pkgOf_eq hs hw
   obtain ⟨k1,k2⟩ := distFrom_join hs l (seen ++ [(pkgOfR src w).name]) (n + (pkgOfR src w).tree.length)
   simp only [List.map_cons]
   rw [e]
   refine ⟨?_,fun h => ?_⟩
   ·rw [distFrom,distFrom,k1]
   ·rw [distFrom] at h
    split at h
    ·rename_i h1; exact absurd h h1
    ·split at h
     ·cases h
     ·rw [k2 h]
  ·have e1 : pkgE seen (pkgOf src w) = 2 := by unfold pkgE pkgOf; rw [if_pos (by rw [Bool.and_eq_false_iff]; exact .inl (by simpa using hw))]
   have e2 : pkgE seen (pkgOfR src w) = 2 := by unfold pkgE pkgOfR; rw [if_pos (by rw [Bool.and_eq_false_iff]; exact .inl (by simpa using hw))]
   simp only [List.map_cons]
   have f1 : distFrom seen n (pkgOf src w :: l.map (pkgOf src)) = 2 := by rw [distFrom,e1]; rfl
   have f2 : distFrom seen n (pkgOfR src w :: l.map (pkgOfR src)) = 2 := by rw [distFrom,e2]; rfl
   rw [f1,f2]
   exact ⟨rfl,fun h => by cases h⟩
theorem join_eq (text : Bs) (src : List Touch) : joinE text src = joinR text src := by
 unfold joinE joinR
 by_cases hs : treeE src = 0
 ·rw [if_neg (by simp [hs]),if_neg (by simp [hs])]
  cases rowsE text with
  | none => rfl
  | some l =>
   simp only
   obtain ⟨k1,k2⟩ := distFrom_join hs l [] 0
   have hd : distE (l.map (pkgOf src)) = distE (l.map (pkgOfR src)) := by unfold distE; rw [k1]; simp
   by_cases h0 : distE (l.map (pkgOf src)) = 0
   ·have h1 : l.map (pkgOf src) = l.map (pkgOfR src) := by
     unfold distE at h0
     split at h0
     ·cases h0
     ·exact k2 h0
    rw [h1]
   ·rw [← hd]
    simp only [ne_eq,h0,not_false_eq_true,if_true]
 ·rw [if_pos hs,if_pos hs]
section
variable {d : List Pkg} (hok : ∀ p ∈ d,PkgOK p) (hnm : d.Pairwise (fun p q => p.name ≠ q.name))
include hok hnm
end
end Go.Proofs.YtopiadllkglamaaGreatDoor
namespace Go.Proofs.YtopiadllkglamaaGreatDoor
open Go.RowKit Go.IntWalk
def Pkg.row (p : Pkg) : List AV := [.str p.name,.str p.ver,.str p.rcp,.sl (touchRows p.tree)]
def decPkg : List AV → Option Pkg
 | [.str a,.str b,.str c,.sl rows] => (decAll decTouch rows).map fun t => ⟨a,b,c,t⟩
 | _ => none
theorem decPkg_row (p : Pkg) : decPkg p.row = some p := by simp [decPkg,Pkg.row]
theorem decPkg_of {row : List AV} {p : Pkg} (h : decPkg row = some p) : row = p.row := by
 unfold decPkg at h
 split at h
 ·rename_i a b c rows
  simp only [Option.map_eq_some_iff] at h
  obtain ⟨t,h1,rfl⟩ := h
  have := decAll_of (fun r x => decTouch_of) h1
  subst this; rfl
 ·cases h
def distRows (d : List Pkg) : List (List AV) := d.map Pkg.row
@[simp] theorem distRows_len {d : List Pkg} : (distRows d).length = d.length := by simp [distRows]
theorem distRows_get {d : List Pkg} {i : Nat} {p : Pkg} (h : d[i]? = some p) : (distRows d)[i]? = some [.str p.name,.str p.ver,.str p.rcp,.sl (touchRows p.tree)] := by simp [distRows,h,Pkg.row]
@[simp] theorem dec_distRows (d : List Pkg) : decAll decPkg (distRows d) = some d := decAll_enc decPkg_row d
def okPkg (p : Pkg) : Bool := decide (p.name.length ≤ 1000000000) && decide (p.ver.length ≤ 1000000000) && decide (p.rcp.length ≤ 1000000000) && decide (p.tree.length ≤ 1000000000) && p.tree.all fun f => decide (f.path.length ≤ 1000000000) && decide (f.dig.length ≤ 4294967296)
def okDist (d : List Pkg) : Bool := decide (d.length ≤ 1000000000) && d.all okPkg
def F_distE : List AV → Option AV
 | [.sl rows] => match decAll decPkg rows with
  | some d => if okDist d then some (.int .i64 (distE d)) else none
  | none => none
 | _ => none
def F_join : List AV → Option AV
 | [.str s,.sl rows] => match decAll decTouch rows with
  | some t => if s.length ≤ 900000 ∧ t.length ≤ 1000 ∧ (t.all fun f => decide (f.path.length ≤ 1000000) && decide (f.dig.length ≤ 1000000)) = true then some (.tup [.sl (distRows (joinE s t).1),.int .i64 (joinE s t).2]) else none
  | none => none
 | _ => none
end Go.Proofs.YtopiadllkglamaaGreatDoor
namespace Go.Proofs.YtopiadllkglamaaGreatDoor
open Go.RowKit Go.IntWalk
theorem idxf_loop_slices_IndexFunc_____string___string_ (G : Gam) (h : Heap) (rows : List (List AV)) (f : FuncId) (caps : List AV) (hb : rows.length ≤ big) : ∀ (rest : List (List AV)) (i : Nat) (v : Int),rows.drop i = rest → findA (fun row => if row.length = 1 then (mkVal false 1 row).bind (ask G h f caps) else none) i rest = some v →
  headM G [5] Mc.q13_L0 h.length [.blk 0,.seq (.seq (.reg [⟨none,some 4,true,.mv,[.c (.int .i64 (-1))]⟩]) .ret)] (lookQ Rs.q13 (.int .i64 v) h)
  [(0,.sl rows),(1,.fn f caps),(4,.int .i64 0),(5,.junk),(7,.int .i64 rows.length),(8,.int .i64 i)] h
 | [],i,v,hd,hv => by
  have hi := drop_nil hd
  have hi' : ¬ (i : Int) < rows.length := by omega
  simp only [findA,Option.some.injEq] at hv; subst hv
  refine head_go (Mc.q13_L0.eq_1) ?_
  simp [ltB,hi',lookQ,Rs.q13,owns,freezeAll]
 | x :: rest,i,v,hd,hv => by
  obtain ⟨hi,hx,hxd⟩ := drop_cons hd
  have hi' : (i : Int) < rows.length := by omega
  have hw := wrap1 (i := i) (by omega)
  by_cases hl : x.length = 1
  ·simp only [findA,hl,if_true] at hv
   cases hm : mkVal false 1 x with
   | none => simp [hm] at hv
   | some a =>
    simp only [hm,Option.bind_some] at hv
    have hcut : mkVal false 1 (cut x 0 1) = some a := by rw [cut_all hl]; exact hm
    cases ha : ask G h f caps a with
    | none => simp [ha] at hv
    | some b =>
     have hc := ask_call ha
     simp only [ha] at hv
     refine head_go (Mc.q13_L0.eq_1) ?_
     cases b with
     | true =>
      simp only [Option.some.injEq] at hv; subst hv
      simp [ltB,hi',iadr_sl hx hl,hcut,hc,lookQ,Rs.q13,owns,freezeAll]
     | false =>
      simp [ltB,hi',iadr_sl hx hl,hcut,hc,hw]
      refine head_of ?_
      have ih := idxf_loop_slices_IndexFunc_____string___string_ G h rows f caps hb rest (i + 1) v hxd hv
      simpa using ih
  ·simp [findA,hl] at hv
theorem idxf_ok_slices_IndexFunc_____string___string_ (G : Gam) : ∀ args h r,F_IndexFunc false 1 G args h = some r → wpM G Mc.q13 (lookQ Rs.q13 r h) [] (frInit Ks.q13 args) h := by
 intro args h r hF
 obtain ⟨rows,f,caps,v,rfl,hb,hv,rfl⟩ := F_IndexFunc_inv hF
 rw [wpM_go]
 have ih := idxf_loop_slices_IndexFunc_____string___string_ G h rows f caps hb rows 0 v rfl hv
 simpa [Mc.q13,frInit,Ks.q13] using ih
theorem contf_ok_slices_ContainsFunc_____string___string_ (G G0 : Gam) (hG : G Fn.q13 = some (.gen (lookF (F_IndexFunc false 1 G0)))) : ∀ args h r,F_ContainsFunc false 1 G0 args h = some r → wpM G Mc.q11 (lookQ Rs.q11 r h) [] (frInit Ks.q11 args) h := by
 intro args h r hF
 obtain ⟨rows,f,caps,v,rfl,hb,hv,rfl⟩ := F_ContainsFunc_inv hF
 rw [wpM_go]
 have hc : ∀ h0 : Heap,h0 = h → opV G false h0 (.call Fn.q13) (some [.sl rows,.fn f caps]) = some (.int .i64 v,h0) := fun h0 e => by subst e; rw [op_call_gen hG]; simp [lookF,F_IndexFunc,hb,hv]
 simp [Mc.q11,frInit,Ks.q11,hc,lookQ,Rs.q11,owns,freezeAll]
theorem idxf_loop_slices_IndexFunc_api_Distribution_api_Package_ (G : Gam) (h : Heap) (rows : List (List AV)) (f : FuncId) (caps : List AV) (hb : rows.length ≤ big) : ∀ (rest : List (List AV)) (i : Nat) (v : Int),rows.drop i = rest → findA (fun row => if row.length = 4 then (mkVal true 4 row).bind (ask G h f caps) else none) i rest = some v →
  headM G [5] Mc.q10_L0 h.length [.blk 0,.seq (.seq (.reg [⟨none,some 4,true,.mv,[.c (.int .i64 (-1))]⟩]) .ret)] (lookQ Rs.q10 (.int .i64 v) h)
  [(0,.sl rows),(1,.fn f caps),(4,.int .i64 0),(5,.junk),(7,.int .i64 rows.length),(8,.int .i64 i)] h
 | [],i,v,hd,hv => by
  have hi := drop_nil hd
  have hi' : ¬ (i : Int) < rows.length := by omega
  simp only [findA,Option.some.injEq] at hv; subst hv
  refine head_go (Mc.q10_L0.eq_1) ?_
  simp [ltB,hi',lookQ,Rs.q10,owns,freezeAll]
 | x :: rest,i,v,hd,hv => by
  obtain ⟨hi,hx,hxd⟩ := drop_cons hd
  have hi' : (i : Int) < rows.length := by omega
  have hw := wrap1 (i := i) (by omega)
  by_cases hl : x.length = 4
  ·simp only [findA,hl,if_true] at hv
   cases hm : mkVal true 4 x with
   | none => simp [hm] at hv
   | some a =>
    simp only [hm,Option.bind_some] at hv
    have hcut : mkVal true 4 (cut x 0 4) = some a := by rw [cut_all hl]; exact hm
    cases ha : ask G h f caps a with
    | none => simp [ha] at hv
    | some b =>
     have hc := ask_call ha
     simp only [ha] at hv
     refine head_go (Mc.q10_L0.eq_1) ?_
     cases b with
     | true =>
      simp only [Option.some.injEq] at hv; subst hv
      simp [ltB,hi',iadr_sl hx hl,hcut,hc,lookQ,Rs.q10,owns,freezeAll]
     | false =>
      simp [ltB,hi',iadr_sl hx hl,hcut,hc,hw]
      refine head_of ?_
      have ih := idxf_loop_slices_IndexFunc_api_Distribution_api_Package_ G h rows f caps hb rest (i + 1) v hxd hv
      simpa using ih
  ·simp [findA,hl] at hv
theorem idxf_ok_slices_IndexFunc_api_Distribution_api_Package_ (G : Gam) : ∀ args h r,F_IndexFunc true 4 G args h = some r → wpM G Mc.q10 (lookQ Rs.q10 r h) [] (frInit Ks.q10 args) h := by
 intro args h r hF
 obtain ⟨rows,f,caps,v,rfl,hb,hv,rfl⟩ := F_IndexFunc_inv hF
 rw [wpM_go]
 have ih := idxf_loop_slices_IndexFunc_api_Distribution_api_Package_ G h rows f caps hb rows 0 v rfl hv
 simpa [Mc.q10,frInit,Ks.q10] using ih
theorem contf_ok_slices_ContainsFunc_api_Distribution_api_Package_ (G G0 : Gam) (hG : G Fn.q10 = some (.gen (lookF (F_IndexFunc true 4 G0)))) : ∀ args h r,F_ContainsFunc true 4 G0 args h = some r → wpM G Mc.q9 (lookQ Rs.q9 r h) [] (frInit Ks.q9 args) h := by
 intro args h r hF
 obtain ⟨rows,f,caps,v,rfl,hb,hv,rfl⟩ := F_ContainsFunc_inv hF
 rw [wpM_go]
 have hc : ∀ h0 : Heap,h0 = h → opV G false h0 (.call Fn.q10) (some [.sl rows,.fn f caps]) = some (.int .i64 v,h0) := fun h0 e => by subst e; rw [op_call_gen hG]; simp [lookF,F_IndexFunc,hb,hv]
 simp [Mc.q9,frInit,Ks.q9,hc,lookQ,Rs.q9,owns,freezeAll]
end Go.Proofs.YtopiadllkglamaaGreatDoor
