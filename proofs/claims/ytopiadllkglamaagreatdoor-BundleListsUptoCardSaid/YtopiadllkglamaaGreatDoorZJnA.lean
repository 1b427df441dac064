/- The functions of lists and joins of distributions,resolved: by program (Gen.lean). Distributions: whether they are right; the text of their packages and their sources; what is joined: plain laws. Dis -/
import Derived.Test.YtopiadllkglamaaGreatDoorZRecMc
import Derived.Test.YtopiadllkglamaaGreatDoorZRmD
import Derived.Test.YtopiadllkglamaaGreatDoorZRmJ
import Derived.Test.YtopiadllkglamaaGreatDoorZPkC
import Derived.Test.YtopiadllkglamaaGreatDoorZAm10
namespace Go.Proofs.YtopiadllkglamaaGreatDoor
def Ks.bundle_Join : List Nat := [0,1,4,5,6,7,8,9,11,12,14,15,16,31,32,33,47,48,49]
def Rs.bundle_Join : List RV := [.tmp 4,.tmp 5]
def Dl.bundle_Join : List (List Nat) := [[11,12,14,15,16,47,48,49],[14,15,16]]
def Mc.bundle_Join_L1 : MC := (.seq (.reg [
  ⟨none,some 50,false,.bin .lss,[.t 49,.t 48]⟩])
 (.seq (.ite (.t 50)
  .skip
  (.exit 2))
 (.seq (.blk 3 (.seq (.reg [
  ⟨none,some 51,false,.iadr 2,[.t 47,.t 49]⟩,
  ⟨none,some 52,false,.ld 2 true,[.t 51]⟩,
  ⟨none,some 14,true,.alloc [.str [],.str []],[]⟩,
  ⟨none,none,false,.st 2,[.t 14,.t 52]⟩])
 (.seq (.reg [
  ⟨none,some 54,false,.fadr 0,[.t 14]⟩,
  ⟨none,some 55,false,.ld 1 false,[.t 54]⟩,
  ⟨none,some 56,false,.fadr 0,[.t 12]⟩,
  ⟨none,some 57,false,.ld 1 false,[.t 56]⟩,
  ⟨none,some 58,false,.bin .add,[.t 57,.c (.str [47])]⟩,
  ⟨none,some 59,false,.call Fn.q38,[.t 55,.t 58]⟩,
  ⟨none,some 53,false,.mv,[.t 59]⟩,
  ⟨none,some 60,false,.ext 0,[.t 53]⟩,
  ⟨none,some 61,false,.ext 1,[.t 53]⟩,
  ⟨none,some 15,true,.mv,[.t 60]⟩,
  ⟨none,some 16,true,.mv,[.t 61]⟩])
 (.seq (.reg [
  ⟨none,some 62,false,.mv,[.t 16]⟩])
 (.ite (.t 62)
  (.seq (.reg [
   ⟨none,some 63,false,.fadr 3,[.t 12]⟩,
   ⟨none,some 64,false,.ld 1 false,[.t 63]⟩,
   ⟨none,some 65,false,.mv,[.t 15]⟩,
   ⟨none,some 66,false,.fadr 1,[.t 14]⟩,
   ⟨none,some 67,false,.ld 1 false,[.t 66]⟩,
   ⟨none,some 68,false,.bld [.str [],.str []] [(0,1),(1,1)],[.t 65,.t 67]⟩,
   ⟨none,some 69,false,.bsl false 2,[.t 68]⟩,
   ⟨none,some 70,false,.app false 2 32,[.t 64,.t 69]⟩,
   ⟨none,some 71,false,.fadr 3,[.t 12]⟩,
   ⟨none,none,false,.st 1,[.t 71,.t 70]⟩])
  (.reg [
   ⟨none,some 72,false,.mv,[.t 9]⟩,
   ⟨none,some 73,false,.bin .add,[.t 72,.c (.int .i64 1)]⟩,
   ⟨none,some 9,true,.mv,[.t 73]⟩]))
  .skip)))))
 (.reg [
  ⟨none,some 74,false,.bin .add,[.t 49,.c (.int .i64 1)]⟩,
  ⟨none,some 49,true,.mv,[.t 74]⟩]))))
def Mc.bundle_Join_L0 : MC := (.seq (.reg [
  ⟨none,some 34,false,.bin .lss,[.t 33,.t 32]⟩])
 (.seq (.ite (.t 34)
  .skip
  (.exit 0))
 (.seq (.blk 1 (.seq (.reg [
  ⟨none,some 35,false,.iadr 1,[.t 31,.t 33]⟩,
  ⟨none,some 36,false,.ld 1 false,[.t 35]⟩,
  ⟨none,some 11,true,.mv,[.t 36]⟩])
 (.seq (.rge [
  (false,[],⟨none,some 37,false,.mv,[.t 11]⟩),
  (false,[9],⟨none,some 38,false,.iadr 1,[.t 37,.c (.int .i64 0)]⟩),
  (false,[8],⟨none,some 39,false,.ld 1 false,[.t 38]⟩),
  (false,[],⟨none,some 40,false,.mv,[.t 11]⟩),
  (false,[6],⟨none,some 41,false,.iadr 1,[.t 40,.c (.int .i64 1)]⟩),
  (false,[5],⟨none,some 42,false,.ld 1 false,[.t 41]⟩),
  (false,[],⟨none,some 43,false,.mv,[.t 11]⟩),
  (false,[3],⟨none,some 44,false,.iadr 1,[.t 43,.c (.int .i64 2)]⟩),
  (false,[2],⟨none,some 45,false,.ld 1 false,[.t 44]⟩),
  (false,[1],⟨none,some 46,false,.bld [.str [],.str [],.str [],.nils] [(0,1),(1,1),(2,1)],[.t 39,.t 42,.t 45]⟩),
  (false,[],⟨none,some 12,true,.alloc [.str [],.str [],.str [],.nils],[]⟩),
  (false,[],⟨none,none,false,.st 4,[.t 12,.t 46]⟩)])
 (.seq (.seq (.reg [
  ⟨none,some 47,true,.mv,[.t 1]⟩,
  ⟨none,some 48,true,.len 1,[.t 47]⟩,
  ⟨none,some 49,true,.mv,[.c (.int .i64 0)]⟩])
 (.blk 2 (.loop [14,15,16] Mc.bundle_Join_L1)))
 (.reg [
  ⟨none,some 75,false,.mv,[.t 8]⟩,
  ⟨none,some 76,false,.ld 4 true,[.t 12]⟩,
  ⟨none,some 77,false,.bsl false 4,[.t 76]⟩,
  ⟨none,some 78,false,.app false 4 72,[.t 75,.t 77]⟩,
  ⟨none,some 8,true,.mv,[.t 78]⟩])))))
 (.reg [
  ⟨none,some 79,false,.bin .add,[.t 33,.c (.int .i64 1)]⟩,
  ⟨none,some 33,true,.mv,[.t 79]⟩]))))
def Mc.bundle_Join : MC := (.seq (.reg [
  ⟨none,some 4,true,.newnil 4,[]⟩,
  ⟨none,some 5,true,.mv,[.c (.int .i64 0)]⟩])
 (.seq (.seq (.reg [
  ⟨none,some 17,false,.mv,[.t 1]⟩,
  ⟨none,some 18,false,.call Fn.tree_Check,[.t 17]⟩,
  ⟨none,some 19,false,.bin .neq,[.t 18,.c (.int .i64 0)]⟩])
 (.ite (.t 19)
  (.seq (.reg [
   ⟨none,some 4,true,.newnil 4,[]⟩,
   ⟨none,some 5,true,.mv,[.c (.int .i64 1)]⟩])
  .ret)
  .skip))
 (.seq (.reg [
  ⟨none,some 21,false,.mv,[.t 0]⟩,
  ⟨none,some 22,false,.call Fn.bundle_rows,[.t 21]⟩,
  ⟨none,some 20,false,.mv,[.t 22]⟩,
  ⟨none,some 23,false,.ext 0,[.t 20]⟩,
  ⟨none,some 24,false,.ext 1,[.t 20]⟩,
  ⟨none,some 6,true,.mv,[.t 23]⟩,
  ⟨none,some 7,true,.mv,[.t 24]⟩])
 (.seq (.seq (.reg [
  ⟨none,some 25,false,.mv,[.t 7]⟩,
  ⟨none,some 26,false,.un .not,[.t 25]⟩,
  ⟨none,some 27,false,.mv,[.t 26]⟩,
  ⟨some (27,false),some 28,false,.mv,[.t 6]⟩,
  ⟨some (27,false),some 29,false,.call Fn.q11,[.t 28,.c (.fn Fn.q64 [])]⟩,
  ⟨none,some 30,false,.pick,[.t 27,.c (.bool true),.t 29]⟩])
 (.ite (.t 30)
  (.seq (.reg [
   ⟨none,some 4,true,.newnil 4,[]⟩,
   ⟨none,some 5,true,.mv,[.c (.int .i64 4)]⟩])
  .ret)
  .skip))
 (.seq (.reg [
  ⟨none,some 8,true,.newnil 4,[]⟩])
 (.seq (.reg [
  ⟨none,some 9,true,.mv,[.c (.int .i64 0)]⟩])
 (.seq (.seq (.reg [
  ⟨none,some 31,true,.mv,[.t 6]⟩,
  ⟨none,some 32,true,.len 1,[.t 31]⟩,
  ⟨none,some 33,true,.mv,[.c (.int .i64 0)]⟩])
 (.blk 0 (.loop [11,12,14,15,16,47,48,49] Mc.bundle_Join_L0)))
 (.seq (.seq (.reg [
  ⟨none,some 80,false,.mv,[.t 8]⟩,
  ⟨none,some 81,false,.call Fn.build_Check,[.t 80]⟩,
  ⟨none,some 82,false,.bin .neq,[.t 81,.c (.int .i64 0)]⟩])
 (.ite (.t 82)
  (.seq (.reg [
   ⟨none,some 4,true,.newnil 4,[]⟩,
   ⟨none,some 5,true,.mv,[.c (.int .i64 1)]⟩])
  .ret)
  .skip))
 (.seq (.seq (.reg [
  ⟨none,some 83,false,.mv,[.t 9]⟩,
  ⟨none,some 84,false,.mv,[.t 1]⟩,
  ⟨none,some 85,false,.len 1,[.t 84]⟩,
  ⟨none,some 86,false,.bin .neq,[.t 83,.t 85]⟩])
 (.ite (.t 86)
  (.seq (.reg [
   ⟨none,some 4,true,.newnil 4,[]⟩,
   ⟨none,some 5,true,.mv,[.c (.int .i64 9)]⟩])
  .ret)
  .skip))
 (.seq (.reg [
  ⟨none,some 87,false,.mv,[.t 8]⟩,
  ⟨none,some 4,true,.mv,[.t 87]⟩,
  ⟨none,some 5,true,.mv,[.c (.int .i64 0)]⟩])
 .ret))))))))))
def Ks.build_Check : List Nat := [0,2,3,4,5,7,11,12,13]
def Rs.build_Check : List RV := [.tmp 2]
def Dl.build_Check : List (List Nat) := [[4,5,7]]
def Mc.build_Check_L0 : MC := (.seq (.reg [
  ⟨none,some 14,false,.bin .lss,[.t 13,.t 12]⟩])
 (.seq (.ite (.t 14)
  .skip
  (.exit 0))
 (.seq (.blk 1 (.seq (.reg [
  ⟨none,some 15,false,.mv,[.t 13]⟩,
  ⟨none,some 16,false,.iadr 4,[.t 11,.t 13]⟩,
  ⟨none,some 17,false,.ld 4 true,[.t 16]⟩,
  ⟨none,some 5,true,.alloc [.str [],.str [],.str [],.nils],[]⟩,
  ⟨none,some 4,true,.mv,[.t 15]⟩,
  ⟨none,none,false,.st 4,[.t 5,.t 17]⟩])
 (.seq (.blk 2 (.seq (.reg [
  ⟨none,some 19,false,.fadr 0,[.t 5]⟩,
  ⟨none,some 20,false,.ld 1 false,[.t 19]⟩,
  ⟨none,some 21,false,.call Fn.build_part,[.t 20]⟩,
  ⟨none,some 22,false,.un .not,[.t 21]⟩,
  ⟨none,some 23,false,.mv,[.t 22]⟩,
  ⟨some (23,false),some 24,false,.fadr 1,[.t 5]⟩,
  ⟨some (23,false),some 25,false,.ld 1 false,[.t 24]⟩,
  ⟨some (23,false),some 26,false,.call Fn.build_part,[.t 25]⟩,
  ⟨some (23,false),some 27,false,.un .not,[.t 26]⟩,
  ⟨none,some 28,false,.pick,[.t 23,.c (.bool true),.t 27]⟩,
  ⟨none,some 18,false,.mv,[.t 28]⟩])
 (.ite (.t 18)
  (.seq (.reg [
   ⟨none,some 2,true,.mv,[.c (.int .i64 2)]⟩])
  .ret)
  (.seq (.reg [
   ⟨none,some 30,false,.mv,[.t 0]⟩,
   ⟨none,some 31,false,.mv,[.t 4]⟩,
   ⟨none,some 32,false,.slc (some 4) false true false,[.t 30,.t 31]⟩,
   ⟨none,some 33,false,.mkfn Fn.q65,[.t 5]⟩,
   ⟨none,some 34,false,.call Fn.q9,[.t 32,.t 33]⟩,
   ⟨none,some 29,false,.mv,[.t 34]⟩])
  (.ite (.t 29)
   (.seq (.reg [
    ⟨none,some 2,true,.mv,[.c (.int .i64 6)]⟩])
   .ret)
   (.seq (.reg [
    ⟨none,some 36,false,.fadr 3,[.t 5]⟩,
    ⟨none,some 37,false,.ld 1 false,[.t 36]⟩,
    ⟨none,some 38,false,.call Fn.tree_Check,[.t 37]⟩,
    ⟨none,some 39,false,.bin .neq,[.t 38,.c (.int .i64 0)]⟩,
    ⟨none,some 35,false,.mv,[.t 39]⟩])
   (.ite (.t 35)
    (.seq (.reg [
     ⟨none,some 2,true,.mv,[.c (.int .i64 1)]⟩])
    .ret)
    (.seq (.reg [
     ⟨none,some 41,false,.fadr 3,[.t 5]⟩,
     ⟨none,some 42,false,.ld 1 false,[.t 41]⟩,
     ⟨none,some 43,false,.mkfn Fn.q66,[.t 5]⟩,
     ⟨none,some 44,false,.call Fn.q12,[.t 42,.t 43]⟩,
     ⟨none,some 40,false,.mv,[.t 44]⟩])
    (.ite (.t 40)
     (.seq (.reg [
      ⟨none,some 2,true,.mv,[.c (.int .i64 2)]⟩])
     .ret)
     .skip)))))))))
 (.seq (.seq (.reg [
  ⟨none,some 46,false,.fadr 3,[.t 5]⟩,
  ⟨none,some 47,false,.ld 1 false,[.t 46]⟩,
  ⟨none,some 48,false,.fadr 2,[.t 5]⟩,
  ⟨none,some 49,false,.ld 1 false,[.t 48]⟩,
  ⟨none,some 50,false,.call Fn.tree_Find,[.t 47,.t 49]⟩,
  ⟨none,some 45,false,.mv,[.t 50]⟩,
  ⟨none,some 51,false,.ext 0,[.t 45]⟩,
  ⟨none,some 52,false,.ext 1,[.t 45]⟩,
  ⟨none,some 6,false,.mv,[.t 51]⟩,
  ⟨none,some 7,true,.mv,[.t 52]⟩])
 (.seq (.reg [
  ⟨none,some 53,false,.mv,[.t 7]⟩,
  ⟨none,some 54,false,.un .not,[.t 53]⟩])
 (.ite (.t 54)
  (.seq (.reg [
   ⟨none,some 2,true,.mv,[.c (.int .i64 7)]⟩])
  .ret)
  .skip)))
 (.seq (.reg [
  ⟨none,some 55,false,.mv,[.t 3]⟩,
  ⟨none,some 56,false,.fadr 3,[.t 5]⟩,
  ⟨none,some 57,false,.ld 1 false,[.t 56]⟩,
  ⟨none,some 58,false,.len 1,[.t 57]⟩,
  ⟨none,some 59,false,.bin .add,[.t 55,.t 58]⟩,
  ⟨none,some 3,true,.mv,[.t 59]⟩])
 (.seq (.reg [
  ⟨none,some 60,false,.mv,[.t 3]⟩,
  ⟨none,some 61,false,.bin .gtr,[.t 60,.c (.int .i64 64)]⟩])
 (.ite (.t 61)
  (.seq (.reg [
   ⟨none,some 2,true,.mv,[.c (.int .i64 10)]⟩])
  .ret)
  .skip)))))))
 (.reg [
  ⟨none,some 62,false,.bin .add,[.t 13,.c (.int .i64 1)]⟩,
  ⟨none,some 13,true,.mv,[.t 62]⟩]))))
def Mc.build_Check : MC := (.seq (.reg [
  ⟨none,some 2,true,.mv,[.c (.int .i64 0)]⟩])
 (.seq (.seq (.reg [
  ⟨none,some 8,false,.mv,[.t 0]⟩,
  ⟨none,some 9,false,.len 1,[.t 8]⟩,
  ⟨none,some 10,false,.bin .gtr,[.t 9,.c (.int .i64 16)]⟩])
 (.ite (.t 10)
  (.seq (.reg [
   ⟨none,some 2,true,.mv,[.c (.int .i64 10)]⟩])
  .ret)
  .skip))
 (.seq (.reg [
  ⟨none,some 3,true,.mv,[.c (.int .i64 0)]⟩])
 (.seq (.seq (.reg [
  ⟨none,some 11,true,.mv,[.t 0]⟩,
  ⟨none,some 12,true,.len 1,[.t 11]⟩,
  ⟨none,some 13,true,.mv,[.c (.int .i64 0)]⟩])
 (.blk 0 (.loop [4,5,7] Mc.build_Check_L0)))
 (.seq (.reg [
  ⟨none,some 2,true,.mv,[.c (.int .i64 0)]⟩])
 .ret)))))
def Ks.q44 : List Nat := [0,2,3,4,6,8,10,14,15,16]
def Rs.q44 : List RV := [.tmp 2]
def Dl.q44 : List (List Nat) := [[6,8,10]]
def Mc.q44_L0 : MC := (.seq (.reg [
  ⟨none,some 17,false,.bin .lss,[.t 16,.t 15]⟩])
 (.seq (.ite (.t 17)
  .skip
  (.exit 0))
 (.seq (.blk 1 (.seq (.reg [
  ⟨none,some 18,false,.iadr 4,[.t 14,.t 16]⟩,
  ⟨none,some 19,false,.ld 4 true,[.t 18]⟩,
  ⟨none,some 6,true,.alloc [.str [],.str [],.str [],.nils],[]⟩,
  ⟨none,none,false,.st 4,[.t 6,.t 19]⟩])
 (.seq (.seq (.reg [
  ⟨none,some 20,false,.fadr 0,[.t 6]⟩,
  ⟨none,some 21,false,.ld 1 false,[.t 20]⟩,
  ⟨none,some 22,false,.call Fn.q57,[.t 21]⟩,
  ⟨none,some 23,false,.un .not,[.t 22]⟩,
  ⟨none,some 24,false,.mv,[.t 23]⟩,
  ⟨some (24,false),some 25,false,.fadr 1,[.t 6]⟩,
  ⟨some (24,false),some 26,false,.ld 1 false,[.t 25]⟩,
  ⟨some (24,false),some 27,false,.call Fn.q57,[.t 26]⟩,
  ⟨some (24,false),some 28,false,.un .not,[.t 27]⟩,
  ⟨none,some 29,false,.pick,[.t 24,.c (.bool true),.t 28]⟩])
 (.ite (.t 29)
  (.seq (.reg [
   ⟨none,some 2,true,.mv,[.c (.int .i64 2)]⟩])
  .ret)
  .skip))
 (.seq (.seq (.reg [
  ⟨none,some 30,false,.mv,[.t 4]⟩,
  ⟨none,some 31,false,.fadr 0,[.t 6]⟩,
  ⟨none,some 32,false,.ld 1 false,[.t 31]⟩,
  ⟨none,some 33,false,.call Fn.q61,[.t 30,.t 32]⟩])
 (.ite (.t 33)
  (.seq (.reg [
   ⟨none,some 2,true,.mv,[.c (.int .i64 6)]⟩])
  .ret)
  .skip))
 (.seq (.reg [
  ⟨none,some 34,false,.mv,[.t 4]⟩,
  ⟨none,some 35,false,.fadr 0,[.t 6]⟩,
  ⟨none,some 36,false,.ld 1 false,[.t 35]⟩,
  ⟨none,some 37,false,.bsl false 1,[.t 36]⟩,
  ⟨none,some 38,false,.app false 1 16,[.t 34,.t 37]⟩,
  ⟨none,some 4,true,.mv,[.t 38]⟩])
 (.seq (.seq (.reg [
  ⟨none,some 39,false,.fadr 3,[.t 6]⟩,
  ⟨none,some 40,false,.ld 1 false,[.t 39]⟩,
  ⟨none,some 41,false,.call Fn.q45,[.t 40]⟩,
  ⟨none,some 42,false,.bin .neq,[.t 41,.c (.int .i64 0)]⟩])
 (.ite (.t 42)
  (.seq (.reg [
   ⟨none,some 2,true,.mv,[.c (.int .i64 1)]⟩])
  .ret)
  .skip))
 (.seq (.reg [
  ⟨none,some 44,false,.fadr 3,[.t 6]⟩,
  ⟨none,some 45,false,.ld 1 false,[.t 44]⟩,
  ⟨none,some 46,false,.fadr 0,[.t 6]⟩,
  ⟨none,some 47,false,.ld 1 false,[.t 46]⟩,
  ⟨none,some 48,false,.call Fn.q46,[.t 45,.t 47]⟩,
  ⟨none,some 43,false,.mv,[.t 48]⟩,
  ⟨none,some 49,false,.ext 0,[.t 43]⟩,
  ⟨none,some 50,false,.ext 1,[.t 43]⟩,
  ⟨none,some 7,false,.mv,[.t 49]⟩,
  ⟨none,some 8,true,.mv,[.t 50]⟩])
 (.seq (.seq (.reg [
  ⟨none,some 51,false,.mv,[.t 8]⟩,
  ⟨none,some 52,false,.bin .neq,[.t 51,.c (.int .i64 0)]⟩])
 (.ite (.t 52)
  (.seq (.reg [
   ⟨none,some 2,true,.mv,[.c (.int .i64 2)]⟩])
  .ret)
  .skip))
 (.seq (.reg [
  ⟨none,some 54,false,.fadr 3,[.t 6]⟩,
  ⟨none,some 55,false,.ld 1 false,[.t 54]⟩,
  ⟨none,some 56,false,.fadr 2,[.t 6]⟩,
  ⟨none,some 57,false,.ld 1 false,[.t 56]⟩,
  ⟨none,some 58,false,.call Fn.q58,[.t 55,.t 57]⟩,
  ⟨none,some 53,false,.mv,[.t 58]⟩,
  ⟨none,some 59,false,.ext 0,[.t 53]⟩,
  ⟨none,some 60,false,.ext 1,[.t 53]⟩,
  ⟨none,some 9,false,.mv,[.t 59]⟩,
  ⟨none,some 10,true,.mv,[.t 60]⟩])
 (.seq (.seq (.reg [
  ⟨none,some 61,false,.mv,[.t 10]⟩,
  ⟨none,some 62,false,.un .not,[.t 61]⟩])
 (.ite (.t 62)
  (.seq (.reg [
   ⟨none,some 2,true,.mv,[.c (.int .i64 7)]⟩])
  .ret)
  .skip))
 (.seq (.reg [
  ⟨none,some 63,false,.mv,[.t 3]⟩,
  ⟨none,some 64,false,.fadr 3,[.t 6]⟩,
  ⟨none,some 65,false,.ld 1 false,[.t 64]⟩,
  ⟨none,some 66,false,.len 1,[.t 65]⟩,
  ⟨none,some 67,false,.bin .add,[.t 63,.t 66]⟩,
  ⟨none,some 3,true,.mv,[.t 67]⟩])
 (.seq (.reg [
  ⟨none,some 68,false,.mv,[.t 3]⟩,
  ⟨none,some 69,false,.bin .gtr,[.t 68,.c (.int .i64 64)]⟩])
 (.ite (.t 69)
  (.seq (.reg [
   ⟨none,some 2,true,.mv,[.c (.int .i64 10)]⟩])
  .ret)
  .skip)))))))))))))
 (.reg [
  ⟨none,some 70,false,.bin .add,[.t 16,.c (.int .i64 1)]⟩,
  ⟨none,some 16,true,.mv,[.t 70]⟩]))))
def Mc.q44 : MC := (.seq (.reg [
  ⟨none,some 2,true,.mv,[.c (.int .i64 0)]⟩])
 (.seq (.seq (.reg [
  ⟨none,some 11,false,.mv,[.t 0]⟩,
  ⟨none,some 12,false,.len 1,[.t 11]⟩,
  ⟨none,some 13,false,.bin .gtr,[.t 12,.c (.int .i64 16)]⟩])
 (.ite (.t 13)
  (.seq (.reg [
   ⟨none,some 2,true,.mv,[.c (.int .i64 10)]⟩])
  .ret)
  .skip))
 (.seq (.reg [
  ⟨none,some 3,true,.mv,[.c (.int .i64 0)]⟩])
 (.seq (.reg [
  ⟨none,some 4,true,.newnil 1,[]⟩])
 (.seq (.seq (.reg [
  ⟨none,some 14,true,.mv,[.t 0]⟩,
  ⟨none,some 15,true,.len 1,[.t 14]⟩,
  ⟨none,some 16,true,.mv,[.c (.int .i64 0)]⟩])
 (.blk 0 (.loop [6,8,10] Mc.q44_L0)))
 (.seq (.reg [
  ⟨none,some 2,true,.mv,[.c (.int .i64 0)]⟩])
 .ret))))))
def Ks.q22 : List Nat := [0,1,4,5]
def Rs.q22 : List RV := [.tmp 4]
def Dl.q22 : List (List Nat) := [[]]
def Mc.q22_L0 : MC := (.seq (.seq (.reg [
  ⟨none,some 11,false,.mv,[.t 5]⟩,
  ⟨none,some 12,false,.mv,[.t 0]⟩,
  ⟨none,some 13,false,.len 1,[.t 12]⟩,
  ⟨none,some 14,false,.bin .lss,[.t 11,.t 13]⟩])
 (.ite (.t 14)
  .skip
  (.exit 0)))
 (.seq (.blk 1 (.seq (.rgd [
  ⟨none,some 17,false,.mv,[.t 0]⟩,
  ⟨none,some 18,false,.mv,[.t 5]⟩,
  ⟨none,some 19,false,.iadr 4,[.t 17,.t 18]⟩,
  ⟨none,some 20,false,.fadr 0,[.t 19]⟩,
  ⟨none,some 21,false,.ld 1 false,[.t 20]⟩,
  ⟨none,some 22,false,.mv,[.t 1]⟩,
  ⟨none,some 23,false,.mv,[.t 5]⟩,
  ⟨none,some 24,false,.iadr 4,[.t 22,.t 23]⟩,
  ⟨none,some 25,false,.fadr 0,[.t 24]⟩,
  ⟨none,some 26,false,.ld 1 false,[.t 25]⟩,
  ⟨none,some 27,false,.bin .neq,[.t 21,.t 26]⟩,
  ⟨none,some 28,false,.mv,[.t 27]⟩,
  ⟨some (28,false),some 29,false,.mv,[.t 0]⟩,
  ⟨some (28,false),some 30,false,.mv,[.t 5]⟩,
  ⟨some (28,false),some 31,false,.iadr 4,[.t 29,.t 30]⟩,
  ⟨some (28,false),some 32,false,.fadr 1,[.t 31]⟩,
  ⟨some (28,false),some 33,false,.ld 1 false,[.t 32]⟩,
  ⟨some (28,false),some 34,false,.mv,[.t 1]⟩,
  ⟨some (28,false),some 35,false,.mv,[.t 5]⟩,
  ⟨some (28,false),some 36,false,.iadr 4,[.t 34,.t 35]⟩,
  ⟨some (28,false),some 37,false,.fadr 1,[.t 36]⟩,
  ⟨some (28,false),some 38,false,.ld 1 false,[.t 37]⟩,
  ⟨some (28,false),some 39,false,.bin .neq,[.t 33,.t 38]⟩,
  ⟨none,some 40,false,.pick,[.t 28,.c (.bool true),.t 39]⟩,
  ⟨none,some 41,false,.mv,[.t 40]⟩,
  ⟨some (41,false),some 42,false,.mv,[.t 0]⟩,
  ⟨some (41,false),some 43,false,.mv,[.t 5]⟩,
  ⟨some (41,false),some 44,false,.iadr 4,[.t 42,.t 43]⟩,
  ⟨some (41,false),some 45,false,.fadr 2,[.t 44]⟩,
  ⟨some (41,false),some 46,false,.ld 1 false,[.t 45]⟩,
  ⟨some (41,false),some 47,false,.mv,[.t 1]⟩,
  ⟨some (41,false),some 48,false,.mv,[.t 5]⟩,
  ⟨some (41,false),some 49,false,.iadr 4,[.t 47,.t 48]⟩,
  ⟨some (41,false),some 50,false,.fadr 2,[.t 49]⟩,
  ⟨some (41,false),some 51,false,.ld 1 false,[.t 50]⟩,
  ⟨some (41,false),some 52,false,.bin .neq,[.t 46,.t 51]⟩,
  ⟨none,some 53,false,.pick,[.t 41,.c (.bool true),.t 52]⟩,
  ⟨none,some 54,false,.mv,[.t 53]⟩,
  ⟨some (54,false),some 55,false,.mv,[.t 0]⟩,
  ⟨some (54,false),some 56,false,.mv,[.t 5]⟩,
  ⟨some (54,false),some 57,false,.iadr 4,[.t 55,.t 56]⟩,
  ⟨some (54,false),some 58,false,.fadr 3,[.t 57]⟩,
  ⟨some (54,false),some 59,false,.ld 1 false,[.t 58]⟩,
  ⟨some (54,false),some 60,false,.mv,[.t 1]⟩,
  ⟨some (54,false),some 61,false,.mv,[.t 5]⟩,
  ⟨some (54,false),some 62,false,.iadr 4,[.t 60,.t 61]⟩,
  ⟨some (54,false),some 63,false,.fadr 3,[.t 62]⟩,
  ⟨some (54,false),some 64,false,.ld 1 false,[.t 63]⟩,
  ⟨some (54,false),some 65,false,.call Fn.q54,[.t 59,.t 64]⟩,
  ⟨some (54,false),some 66,false,.un .not,[.t 65]⟩,
  ⟨none,some 67,false,.pick,[.t 54,.c (.bool true),.t 66]⟩])
 (.ite (.t 67)
  (.seq (.reg [
   ⟨none,some 4,true,.mv,[.c (.bool false)]⟩])
  .ret)
  .skip)))
 (.reg [
  ⟨none,some 15,false,.mv,[.t 5]⟩,
  ⟨none,some 16,false,.bin .add,[.t 15,.c (.int .i64 1)]⟩,
  ⟨none,some 5,true,.mv,[.t 16]⟩])))
def Mc.q22 : MC := (.seq (.reg [
  ⟨none,some 4,true,.mv,[.c (.bool false)]⟩])
 (.seq (.seq (.reg [
  ⟨none,some 6,false,.mv,[.t 0]⟩,
  ⟨none,some 7,false,.len 1,[.t 6]⟩,
  ⟨none,some 8,false,.mv,[.t 1]⟩,
  ⟨none,some 9,false,.len 1,[.t 8]⟩,
  ⟨none,some 10,false,.bin .neq,[.t 7,.t 9]⟩])
 (.ite (.t 10)
  (.seq (.reg [
   ⟨none,some 4,true,.mv,[.c (.bool false)]⟩])
  .ret)
  .skip))
 (.seq (.seq (.reg [
  ⟨none,some 5,true,.mv,[.c (.int .i64 0)]⟩])
 (.blk 0 (.loop [] Mc.q22_L0)))
 (.seq (.reg [
  ⟨none,some 4,true,.mv,[.c (.bool true)]⟩])
 .ret))))
def Ks.q64 : List Nat := [0,2]
def Rs.q64 : List RV := [.tmp 2]
def Dl.q64 : List (List Nat) := []
def Mc.q64 : MC := (.seq (.reg [
  ⟨none,some 2,true,.mv,[.c (.bool false)]⟩])
 (.seq (.reg [
  ⟨none,some 3,false,.mv,[.t 0]⟩,
  ⟨none,some 4,false,.len 1,[.t 3]⟩,
  ⟨none,some 5,false,.bin .neq,[.t 4,.c (.int .i64 3)]⟩,
  ⟨none,some 2,true,.mv,[.t 5]⟩])
 .ret))
def Ks.q38 : List Nat := [0,1,4,5]
def Rs.q38 : List RV := [.tmp 4,.tmp 5]
def Dl.q38 : List (List Nat) := []
def Mc.q38 : MC := (.seq (.reg [
  ⟨none,some 4,true,.mv,[.c (.str [])]⟩,
  ⟨none,some 5,true,.mv,[.c (.bool false)]⟩])
 (.seq (.reg [
  ⟨none,some 6,false,.mv,[.t 0]⟩,
  ⟨none,some 7,false,.mv,[.t 1]⟩,
  ⟨none,some 8,false,.call Fn.q19,[.t 6,.t 7]⟩,
  ⟨none,some 9,false,.ext 0,[.t 8]⟩,
  ⟨none,some 10,false,.ext 1,[.t 8]⟩,
  ⟨none,some 4,true,.mv,[.t 9]⟩,
  ⟨none,some 5,true,.mv,[.t 10]⟩])
 .ret))
def Ks.build_part : List Nat := [0,2]
def Rs.build_part : List RV := [.tmp 2]
def Dl.build_part : List (List Nat) := []
def Mc.build_part : MC := (.seq (.reg [
  ⟨none,some 2,true,.mv,[.c (.bool false)]⟩])
 (.seq (.reg [
  ⟨none,some 3,false,.mv,[.t 0]⟩,
  ⟨none,some 4,false,.call Fn.q49,[.t 3,.c (.str [47])]⟩,
  ⟨none,some 5,false,.un .not,[.t 4]⟩,
  ⟨none,some 6,false,.mv,[.t 5]⟩,
  ⟨some (6,true),some 7,false,.mv,[.t 0]⟩,
  ⟨some (6,true),some 8,false,.call Fn.tree_Path,[.t 7]⟩,
  ⟨some (6,true),some 9,false,.bin .eql,[.t 8,.c (.int .i64 0)]⟩,
  ⟨none,some 10,false,.pick,[.t 6,.t 9,.c (.bool false)]⟩,
  ⟨none,some 2,true,.mv,[.t 10]⟩])
 .ret))
def Ks.q65 : List Nat := [0,1,2,3]
def Rs.q65 : List RV := [.tmp 3]
def Dl.q65 : List (List Nat) := []
def Mc.q65 : MC := (.seq (.reg [
  ⟨none,some 2,true,.box,[.t 0]⟩,
  ⟨none,some 3,true,.mv,[.c (.bool false)]⟩])
 (.seq (.reg [
  ⟨none,some 4,false,.fadr 0,[.t 2]⟩,
  ⟨none,some 5,false,.ld 1 false,[.t 4]⟩,
  ⟨none,some 6,false,.fadr 0,[.t 1]⟩,
  ⟨none,some 7,false,.ld 1 false,[.t 6]⟩,
  ⟨none,some 8,false,.bin .eql,[.t 5,.t 7]⟩,
  ⟨none,some 3,true,.mv,[.t 8]⟩])
 .ret))
def Ks.q66 : List Nat := [0,1,2,3]
def Rs.q66 : List RV := [.tmp 3]
def Dl.q66 : List (List Nat) := []
def Mc.q66 : MC := (.seq (.reg [
  ⟨none,some 2,true,.box,[.t 0]⟩,
  ⟨none,some 3,true,.mv,[.c (.bool false)]⟩])
 (.seq (.reg [
  ⟨none,some 4,false,.fadr 0,[.t 1]⟩,
  ⟨none,some 5,false,.ld 1 false,[.t 4]⟩,
  ⟨none,some 6,false,.bin .add,[.t 5,.c (.str [47])]⟩,
  ⟨none,some 7,false,.fadr 0,[.t 2]⟩,
  ⟨none,some 8,false,.ld 1 false,[.t 7]⟩,
  ⟨none,some 9,false,.bin .add,[.t 6,.t 8]⟩,
  ⟨none,some 10,false,.call Fn.tree_Path,[.t 9]⟩,
  ⟨none,some 11,false,.bin .neq,[.t 10,.c (.int .i64 0)]⟩,
  ⟨none,some 3,true,.mv,[.t 11]⟩])
 .ret))
def Ks.tree_Find : List Nat := [0,1,4,5,6]
def Rs.tree_Find : List RV := [.tmp 4,.tmp 5]
def Dl.tree_Find : List (List Nat) := []
def Mc.tree_Find : MC := (.seq (.reg [
  ⟨none,some 4,true,.mv,[.c (.str [])]⟩,
  ⟨none,some 5,true,.mv,[.c (.bool false)]⟩])
 (.seq (.seq (.reg [
  ⟨none,some 7,false,.mv,[.t 0]⟩,
  ⟨none,some 8,false,.mv,[.t 1]⟩,
  ⟨none,some 9,false,.call Fn.tree_index,[.t 7,.t 8]⟩,
  ⟨none,some 6,true,.mv,[.t 9]⟩])
 (.seq (.reg [
  ⟨none,some 10,false,.mv,[.t 6]⟩,
  ⟨none,some 11,false,.bin .geq,[.t 10,.c (.int .i64 0)]⟩])
 (.ite (.t 11)
  (.seq (.reg [
   ⟨none,some 12,false,.mv,[.t 0]⟩,
   ⟨none,some 13,false,.mv,[.t 6]⟩,
   ⟨none,some 14,false,.iadr 2,[.t 12,.t 13]⟩,
   ⟨none,some 15,false,.fadr 1,[.t 14]⟩,
   ⟨none,some 16,false,.ld 1 false,[.t 15]⟩,
   ⟨none,some 4,true,.mv,[.t 16]⟩,
   ⟨none,some 5,true,.mv,[.c (.bool true)]⟩])
  .ret)
  .skip)))
 (.seq (.reg [
  ⟨none,some 4,true,.mv,[.c (.str [])]⟩,
  ⟨none,some 5,true,.mv,[.c (.bool false)]⟩])
 .ret)))
def Ks.q61 : List Nat := [0,1,4,6,7,8,9]
def Rs.q61 : List RV := [.tmp 4]
def Dl.q61 : List (List Nat) := [[6]]
def Mc.q61_L0 : MC := (.seq (.reg [
  ⟨none,some 10,false,.bin .lss,[.t 9,.t 8]⟩])
 (.seq (.ite (.t 10)
  .skip
  (.exit 0))
 (.seq (.blk 1 (.seq (.reg [
  ⟨none,some 11,false,.iadr 1,[.t 7,.t 9]⟩,
  ⟨none,some 12,false,.ld 1 false,[.t 11]⟩,
  ⟨none,some 6,true,.mv,[.t 12]⟩])
 (.seq (.reg [
  ⟨none,some 13,false,.mv,[.t 6]⟩,
  ⟨none,some 14,false,.mv,[.t 1]⟩,
  ⟨none,some 15,false,.bin .eql,[.t 13,.t 14]⟩])
 (.ite (.t 15)
  (.seq (.reg [
   ⟨none,some 4,true,.mv,[.c (.bool true)]⟩])
  .ret)
  .skip))))
 (.reg [
  ⟨none,some 16,false,.bin .add,[.t 9,.c (.int .i64 1)]⟩,
  ⟨none,some 9,true,.mv,[.t 16]⟩]))))
def Mc.q61 : MC := (.seq (.reg [
  ⟨none,some 4,true,.mv,[.c (.bool false)]⟩])
 (.seq (.seq (.reg [
  ⟨none,some 7,true,.mv,[.t 0]⟩,
  ⟨none,some 8,true,.len 1,[.t 7]⟩,
  ⟨none,some 9,true,.mv,[.c (.int .i64 0)]⟩])
 (.blk 0 (.loop [6] Mc.q61_L0)))
 (.seq (.reg [
  ⟨none,some 4,true,.mv,[.c (.bool false)]⟩])
 .ret)))
def Ks.q46 : List Nat := [0,1,4,5,6,8,15,16,17]
def Rs.q46 : List RV := [.tmp 4,.tmp 5]
def Dl.q46 : List (List Nat) := [[8]]
def Mc.q46_L0 : MC := (.seq (.reg [
  ⟨none,some 18,false,.bin .lss,[.t 17,.t 16]⟩])
 (.seq (.ite (.t 18)
  .skip
  (.exit 0))
 (.seq (.blk 1 (.seq (.reg [
  ⟨none,some 19,false,.iadr 2,[.t 15,.t 17]⟩,
  ⟨none,some 20,false,.ld 2 true,[.t 19]⟩,
  ⟨none,some 8,true,.alloc [.str [],.str []],[]⟩,
  ⟨none,none,false,.st 2,[.t 8,.t 20]⟩])
 (.seq (.seq (.reg [
  ⟨none,some 21,false,.mv,[.t 1]⟩,
  ⟨none,some 22,false,.bin .add,[.t 21,.c (.str [47])]⟩,
  ⟨none,some 23,false,.fadr 0,[.t 8]⟩,
  ⟨none,some 24,false,.ld 1 false,[.t 23]⟩,
  ⟨none,some 25,false,.bin .add,[.t 22,.t 24]⟩,
  ⟨none,some 26,false,.call Fn.q55,[.t 25]⟩,
  ⟨none,some 27,false,.bin .neq,[.t 26,.c (.int .i64 0)]⟩])
 (.ite (.t 27)
  (.seq (.reg [
   ⟨none,some 4,true,.newnil 2,[]⟩,
   ⟨none,some 5,true,.mv,[.c (.int .i64 2)]⟩])
  .ret)
  .skip))
 (.reg [
  ⟨none,some 28,false,.mv,[.t 6]⟩,
  ⟨none,some 29,false,.mv,[.t 1]⟩,
  ⟨none,some 30,false,.bin .add,[.t 29,.c (.str [47])]⟩,
  ⟨none,some 31,false,.fadr 0,[.t 8]⟩,
  ⟨none,some 32,false,.ld 1 false,[.t 31]⟩,
  ⟨none,some 33,false,.bin .add,[.t 30,.t 32]⟩,
  ⟨none,some 34,false,.fadr 1,[.t 8]⟩,
  ⟨none,some 35,false,.ld 1 false,[.t 34]⟩,
  ⟨none,some 36,false,.bld [.str [],.str []] [(0,1),(1,1)],[.t 33,.t 35]⟩,
  ⟨none,some 37,false,.bsl false 2,[.t 36]⟩,
  ⟨none,some 38,false,.app false 2 32,[.t 28,.t 37]⟩,
  ⟨none,some 6,true,.mv,[.t 38]⟩]))))
 (.reg [
  ⟨none,some 39,false,.bin .add,[.t 17,.c (.int .i64 1)]⟩,
  ⟨none,some 17,true,.mv,[.t 39]⟩]))))
def Mc.q46 : MC := (.seq (.reg [
  ⟨none,some 4,true,.newnil 2,[]⟩,
  ⟨none,some 5,true,.mv,[.c (.int .i64 0)]⟩])
 (.seq (.seq (.reg [
  ⟨none,some 9,false,.mv,[.t 0]⟩,
  ⟨none,some 10,false,.call Fn.q45,[.t 9]⟩,
  ⟨none,some 11,false,.bin .neq,[.t 10,.c (.int .i64 0)]⟩])
 (.ite (.t 11)
  (.seq (.reg [
   ⟨none,some 4,true,.newnil 2,[]⟩,
   ⟨none,some 5,true,.mv,[.c (.int .i64 1)]⟩])
  .ret)
  .skip))
 (.seq (.seq (.reg [
  ⟨none,some 12,false,.mv,[.t 1]⟩,
  ⟨none,some 13,false,.call Fn.q55,[.t 12]⟩,
  ⟨none,some 14,false,.bin .neq,[.t 13,.c (.int .i64 0)]⟩])
 (.ite (.t 14)
  (.seq (.reg [
   ⟨none,some 4,true,.newnil 2,[]⟩,
   ⟨none,some 5,true,.mv,[.c (.int .i64 2)]⟩])
  .ret)
  .skip))
 (.seq (.reg [
  ⟨none,some 6,true,.newnil 2,[]⟩])
 (.seq (.seq (.reg [
  ⟨none,some 15,true,.mv,[.t 0]⟩,
  ⟨none,some 16,true,.len 1,[.t 15]⟩,
  ⟨none,some 17,true,.mv,[.c (.int .i64 0)]⟩])
 (.blk 0 (.loop [8] Mc.q46_L0)))
 (.seq (.reg [
  ⟨none,some 40,false,.mv,[.t 6]⟩,
  ⟨none,some 4,true,.mv,[.t 40]⟩,
  ⟨none,some 5,true,.mv,[.c (.int .i64 0)]⟩])
 .ret))))))
def Ks.q58 : List Nat := [0,1,4,5,7,8,9,10]
def Rs.q58 : List RV := [.tmp 4,.tmp 5]
def Dl.q58 : List (List Nat) := [[7]]
def Mc.q58_L0 : MC := (.seq (.reg [
  ⟨none,some 11,false,.bin .lss,[.t 10,.t 9]⟩])
 (.seq (.ite (.t 11)
  .skip
  (.exit 0))
 (.seq (.blk 1 (.seq (.reg [
  ⟨none,some 12,false,.iadr 2,[.t 8,.t 10]⟩,
  ⟨none,some 13,false,.ld 2 true,[.t 12]⟩,
  ⟨none,some 7,true,.alloc [.str [],.str []],[]⟩,
  ⟨none,none,false,.st 2,[.t 7,.t 13]⟩])
 (.seq (.reg [
  ⟨none,some 14,false,.fadr 0,[.t 7]⟩,
  ⟨none,some 15,false,.ld 1 false,[.t 14]⟩,
  ⟨none,some 16,false,.mv,[.t 1]⟩,
  ⟨none,some 17,false,.bin .eql,[.t 15,.t 16]⟩])
 (.ite (.t 17)
  (.seq (.reg [
   ⟨none,some 18,false,.fadr 1,[.t 7]⟩,
   ⟨none,some 19,false,.ld 1 false,[.t 18]⟩,
   ⟨none,some 4,true,.mv,[.t 19]⟩,
   ⟨none,some 5,true,.mv,[.c (.bool true)]⟩])
  .ret)
  .skip))))
 (.reg [
  ⟨none,some 20,false,.bin .add,[.t 10,.c (.int .i64 1)]⟩,
  ⟨none,some 10,true,.mv,[.t 20]⟩]))))
def Mc.q58 : MC := (.seq (.reg [
  ⟨none,some 4,true,.mv,[.c (.str [])]⟩,
  ⟨none,some 5,true,.mv,[.c (.bool false)]⟩])
 (.seq (.seq (.reg [
  ⟨none,some 8,true,.mv,[.t 0]⟩,
  ⟨none,some 9,true,.len 1,[.t 8]⟩,
  ⟨none,some 10,true,.mv,[.c (.int .i64 0)]⟩])
 (.blk 0 (.loop [7] Mc.q58_L0)))
 (.seq (.reg [
  ⟨none,some 4,true,.mv,[.c (.str [])]⟩,
  ⟨none,some 5,true,.mv,[.c (.bool false)]⟩])
 .ret)))
def Ks.q19 : List Nat := [0,1,4,5]
def Rs.q19 : List RV := [.tmp 4,.tmp 5]
def Dl.q19 : List (List Nat) := []
def Mc.q19 : MC := (.seq (.reg [
  ⟨none,some 4,true,.mv,[.c (.str [])]⟩,
  ⟨none,some 5,true,.mv,[.c (.bool false)]⟩])
 (.seq (.seq (.reg [
  ⟨none,some 6,false,.mv,[.t 0]⟩,
  ⟨none,some 7,false,.mv,[.t 1]⟩,
  ⟨none,some 8,false,.call Fn.q20,[.t 6,.t 7]⟩,
  ⟨none,some 9,false,.un .not,[.t 8]⟩])
 (.ite (.t 9)
  (.seq (.reg [
   ⟨none,some 10,false,.mv,[.t 0]⟩,
   ⟨none,some 4,true,.mv,[.t 10]⟩,
   ⟨none,some 5,true,.mv,[.c (.bool false)]⟩])
  .ret)
  .skip))
 (.seq (.reg [
  ⟨none,some 11,false,.mv,[.t 0]⟩,
  ⟨none,some 12,false,.mv,[.t 1]⟩,
  ⟨none,some 13,false,.len 0,[.t 12]⟩,
  ⟨none,some 14,false,.slc none true false false,[.t 11,.t 13]⟩,
  ⟨none,some 4,true,.mv,[.t 14]⟩,
  ⟨none,some 5,true,.mv,[.c (.bool true)]⟩])
 .ret)))
def Ks.tree_index : List Nat := [0,1,3,4]
def Rs.tree_index : List RV := [.tmp 4]
def Dl.tree_index : List (List Nat) := []
def Mc.tree_index : MC := (.seq (.reg [
  ⟨none,some 3,true,.box,[.t 1]⟩,
  ⟨none,some 4,true,.mv,[.c (.int .i64 0)]⟩])
 (.seq (.reg [
  ⟨none,some 5,false,.mv,[.t 0]⟩,
  ⟨none,some 6,false,.mkfn Fn.q75,[.t 3]⟩,
  ⟨none,some 7,false,.call Fn.q15,[.t 5,.t 6]⟩,
  ⟨none,some 4,true,.mv,[.t 7]⟩])
 .ret))
def Ks.q75 : List Nat := [0,1,2,3]
def Rs.q75 : List RV := [.tmp 3]
def Dl.q75 : List (List Nat) := []
def Mc.q75 : MC := (.seq (.reg [
  ⟨none,some 2,true,.box,[.t 0]⟩,
  ⟨none,some 3,true,.mv,[.c (.bool false)]⟩])
 (.seq (.reg [
  ⟨none,some 4,false,.fadr 0,[.t 2]⟩,
  ⟨none,some 5,false,.ld 1 false,[.t 4]⟩,
  ⟨none,some 6,false,.ld 1 false,[.t 1]⟩,
  ⟨none,some 7,false,.bin .eql,[.t 5,.t 6]⟩,
  ⟨none,some 3,true,.mv,[.t 7]⟩])
 .ret))
def Ks.q11 : List Nat := [0,1,4]
def Rs.q11 : List RV := [.tmp 4]
def Dl.q11 : List (List Nat) := []
def Mc.q11 : MC := (.seq (.reg [
  ⟨none,some 4,true,.mv,[.c (.bool false)]⟩])
 (.seq (.reg [
  ⟨none,some 5,false,.mv,[.t 0]⟩,
  ⟨none,some 6,false,.mv,[.t 1]⟩,
  ⟨none,some 7,false,.call Fn.q13,[.t 5,.t 6]⟩,
  ⟨none,some 8,false,.bin .geq,[.t 7,.c (.int .i64 0)]⟩,
  ⟨none,some 4,true,.mv,[.t 8]⟩])
 .ret))
def Ks.q9 : List Nat := [0,1,4]
def Rs.q9 : List RV := [.tmp 4]
def Dl.q9 : List (List Nat) := []
def Mc.q9 : MC := (.seq (.reg [
  ⟨none,some 4,true,.mv,[.c (.bool false)]⟩])
 (.seq (.reg [
  ⟨none,some 5,false,.mv,[.t 0]⟩,
  ⟨none,some 6,false,.mv,[.t 1]⟩,
  ⟨none,some 7,false,.call Fn.q10,[.t 5,.t 6]⟩,
  ⟨none,some 8,false,.bin .geq,[.t 7,.c (.int .i64 0)]⟩,
  ⟨none,some 4,true,.mv,[.t 8]⟩])
 .ret))
def Ks.q13 : List Nat := [0,1,4,5,7,8]
def Rs.q13 : List RV := [.tmp 4]
def Dl.q13 : List (List Nat) := [[5]]
def Mc.q13_L0 : MC := (.seq (.reg [
  ⟨none,some 9,false,.bin .lss,[.t 8,.t 7]⟩])
 (.seq (.ite (.t 9)
  .skip
  (.exit 0))
 (.seq (.blk 1 (.seq (.reg [
  ⟨none,some 10,false,.mv,[.t 8]⟩,
  ⟨none,some 5,true,.mv,[.t 10]⟩])
 (.seq (.reg [
  ⟨none,some 11,false,.mv,[.t 1]⟩,
  ⟨none,some 12,false,.mv,[.t 0]⟩,
  ⟨none,some 13,false,.mv,[.t 5]⟩,
  ⟨none,some 14,false,.iadr 1,[.t 12,.t 13]⟩,
  ⟨none,some 15,false,.ld 1 false,[.t 14]⟩,
  ⟨none,some 16,false,.callv,[.t 11,.t 15]⟩])
 (.ite (.t 16)
  (.seq (.reg [
   ⟨none,some 17,false,.mv,[.t 5]⟩,
   ⟨none,some 4,true,.mv,[.t 17]⟩])
  .ret)
  .skip))))
 (.reg [
  ⟨none,some 18,false,.bin .add,[.t 8,.c (.int .i64 1)]⟩,
  ⟨none,some 8,true,.mv,[.t 18]⟩]))))
def Mc.q13 : MC := (.seq (.reg [
  ⟨none,some 4,true,.mv,[.c (.int .i64 0)]⟩])
 (.seq (.seq (.reg [
  ⟨none,some 6,false,.mv,[.t 0]⟩,
  ⟨none,some 7,true,.len 1,[.t 6]⟩,
  ⟨none,some 8,true,.mv,[.c (.int .i64 0)]⟩])
 (.blk 0 (.loop [5] Mc.q13_L0)))
 (.seq (.reg [
  ⟨none,some 4,true,.mv,[.c (.int .i64 (-1))]⟩])
 .ret)))
def Ks.q10 : List Nat := [0,1,4,5,7,8]
def Rs.q10 : List RV := [.tmp 4]
def Dl.q10 : List (List Nat) := [[5]]
def Mc.q10_L0 : MC := (.seq (.reg [
  ⟨none,some 9,false,.bin .lss,[.t 8,.t 7]⟩])
 (.seq (.ite (.t 9)
  .skip
  (.exit 0))
 (.seq (.blk 1 (.seq (.reg [
  ⟨none,some 10,false,.mv,[.t 8]⟩,
  ⟨none,some 5,true,.mv,[.t 10]⟩])
 (.seq (.reg [
  ⟨none,some 11,false,.mv,[.t 1]⟩,
  ⟨none,some 12,false,.mv,[.t 0]⟩,
  ⟨none,some 13,false,.mv,[.t 5]⟩,
  ⟨none,some 14,false,.iadr 4,[.t 12,.t 13]⟩,
  ⟨none,some 15,false,.ld 4 true,[.t 14]⟩,
  ⟨none,some 16,false,.callv,[.t 11,.t 15]⟩])
 (.ite (.t 16)
  (.seq (.reg [
   ⟨none,some 17,false,.mv,[.t 5]⟩,
   ⟨none,some 4,true,.mv,[.t 17]⟩])
  .ret)
  .skip))))
 (.reg [
  ⟨none,some 18,false,.bin .add,[.t 8,.c (.int .i64 1)]⟩,
  ⟨none,some 8,true,.mv,[.t 18]⟩]))))
def Mc.q10 : MC := (.seq (.reg [
  ⟨none,some 4,true,.mv,[.c (.int .i64 0)]⟩])
 (.seq (.seq (.reg [
  ⟨none,some 6,false,.mv,[.t 0]⟩,
  ⟨none,some 7,true,.len 1,[.t 6]⟩,
  ⟨none,some 8,true,.mv,[.c (.int .i64 0)]⟩])
 (.blk 0 (.loop [5] Mc.q10_L0)))
 (.seq (.reg [
  ⟨none,some 4,true,.mv,[.c (.int .i64 (-1))]⟩])
 .ret)))
def Ks.q28 : List Nat := [0,2,3,4,5,6,7,8,9,10]
def Rs.q28 : List RV := [.tmp 2]
def Dl.q28 : List (List Nat) := []
def Mc.q28 : MC := (.seq (.reg [
  ⟨none,some 2,true,.mv,[.c (.bool false)]⟩])
 (.seq (.seq (.reg [
  ⟨none,some 11,false,.call Fn.q43,[]⟩,
  ⟨none,some 12,false,.un .not,[.t 11]⟩,
  ⟨none,some 13,false,.mv,[.t 12]⟩,
  ⟨some (13,false),some 14,false,.mv,[.t 0]⟩,
  ⟨some (13,false),some 15,false,.call Fn.q59,[.t 14]⟩,
  ⟨some (13,false),some 16,false,.un .not,[.t 15]⟩,
  ⟨none,some 17,false,.pick,[.t 13,.c (.bool true),.t 16]⟩])
 (.ite (.t 17)
  (.seq (.reg [
   ⟨none,some 18,false,.call Fn.q43,[]⟩,
   ⟨none,some 2,true,.mv,[.t 18]⟩])
  .ret)
  .skip))
 (.seq (.reg [
  ⟨none,some 20,false,.mv,[.t 0]⟩,
  ⟨none,some 21,false,.call Fn.bundle_List,[.t 20]⟩,
  ⟨none,some 19,false,.mv,[.t 21]⟩,
  ⟨none,some 22,false,.ext 0,[.t 19]⟩,
  ⟨none,some 23,false,.ext 1,[.t 19]⟩,
  ⟨none,some 24,false,.ext 2,[.t 19]⟩,
  ⟨none,some 3,true,.mv,[.t 22]⟩,
  ⟨none,some 4,true,.mv,[.t 23]⟩,
  ⟨none,some 5,true,.mv,[.t 24]⟩])
 (.seq (.reg [
  ⟨none,some 26,false,.mv,[.t 0]⟩,
  ⟨none,some 27,false,.call Fn.q51,[.t 26]⟩,
  ⟨none,some 25,false,.mv,[.t 27]⟩,
  ⟨none,some 28,false,.ext 0,[.t 25]⟩,
  ⟨none,some 29,false,.ext 1,[.t 25]⟩,
  ⟨none,some 30,false,.ext 2,[.t 25]⟩,
  ⟨none,some 6,true,.mv,[.t 28]⟩,
  ⟨none,some 7,true,.mv,[.t 29]⟩,
  ⟨none,some 8,true,.mv,[.t 30]⟩])
 (.seq (.seq (.reg [
  ⟨none,some 31,false,.mv,[.t 3]⟩,
  ⟨none,some 32,false,.mv,[.t 6]⟩,
  ⟨none,some 33,false,.bin .neq,[.t 31,.t 32]⟩,
  ⟨none,some 34,false,.mv,[.t 33]⟩,
  ⟨some (34,false),some 35,false,.mv,[.t 5]⟩,
  ⟨some (34,false),some 36,false,.mv,[.t 8]⟩,
  ⟨some (34,false),some 37,false,.bin .neq,[.t 35,.t 36]⟩,
  ⟨none,some 38,false,.pick,[.t 34,.c (.bool true),.t 37]⟩,
  ⟨none,some 39,false,.mv,[.t 38]⟩,
  ⟨some (39,false),some 40,false,.mv,[.t 4]⟩,
  ⟨some (39,false),some 41,false,.mv,[.t 7]⟩,
  ⟨some (39,false),some 42,false,.call Fn.q54,[.t 40,.t 41]⟩,
  ⟨some (39,false),some 43,false,.un .not,[.t 42]⟩,
  ⟨none,some 44,false,.pick,[.t 39,.c (.bool true),.t 43]⟩,
  ⟨none,some 45,false,.mv,[.t 44]⟩,
  ⟨some (45,false),some 46,false,.mv,[.t 5]⟩,
  ⟨some (45,false),some 47,false,.bin .neq,[.t 46,.c (.int .i64 0)]⟩,
  ⟨none,some 48,false,.pick,[.t 45,.c (.bool true),.t 47]⟩])
 (.ite (.t 48)
  (.seq (.reg [
   ⟨none,some 49,false,.mv,[.t 3]⟩,
   ⟨none,some 50,false,.mv,[.t 6]⟩,
   ⟨none,some 51,false,.bin .eql,[.t 49,.t 50]⟩,
   ⟨none,some 52,false,.mv,[.t 51]⟩,
   ⟨some (52,true),some 53,false,.mv,[.t 5]⟩,
   ⟨some (52,true),some 54,false,.mv,[.t 8]⟩,
   ⟨some (52,true),some 55,false,.bin .eql,[.t 53,.t 54]⟩,
   ⟨none,some 56,false,.pick,[.t 52,.t 55,.c (.bool false)]⟩,
   ⟨none,some 57,false,.mv,[.t 56]⟩,
   ⟨some (57,true),some 58,false,.mv,[.t 4]⟩,
   ⟨some (57,true),some 59,false,.mv,[.t 7]⟩,
   ⟨some (57,true),some 60,false,.call Fn.q54,[.t 58,.t 59]⟩,
   ⟨none,some 61,false,.pick,[.t 57,.t 60,.c (.bool false)]⟩,
   ⟨none,some 2,true,.mv,[.t 61]⟩])
  .ret)
  .skip))
 (.seq (.reg [
  ⟨none,some 63,false,.mv,[.t 3]⟩,
  ⟨none,some 64,false,.mv,[.t 4]⟩,
  ⟨none,some 65,false,.call Fn.bundle_Join,[.t 63,.t 64]⟩,
  ⟨none,some 62,false,.mv,[.t 65]⟩,
  ⟨none,some 66,false,.ext 0,[.t 62]⟩,
  ⟨none,some 67,false,.ext 1,[.t 62]⟩,
  ⟨none,some 9,true,.mv,[.t 66]⟩,
  ⟨none,some 10,true,.mv,[.t 67]⟩])
 (.seq (.reg [
  ⟨none,some 68,false,.mv,[.t 10]⟩,
  ⟨none,some 69,false,.bin .eql,[.t 68,.c (.int .i64 0)]⟩,
  ⟨none,some 70,false,.mv,[.t 69]⟩,
  ⟨some (70,true),some 71,false,.mv,[.t 9]⟩,
  ⟨some (70,true),some 72,false,.mv,[.t 0]⟩,
  ⟨some (70,true),some 73,false,.call Fn.q22,[.t 71,.t 72]⟩,
  ⟨none,some 74,false,.pick,[.t 70,.t 73,.c (.bool false)]⟩,
  ⟨none,some 2,true,.mv,[.t 74]⟩])
 .ret)))))))
end Go.Proofs.YtopiadllkglamaaGreatDoor
namespace Go.Proofs.YtopiadllkglamaaGreatDoor
open Go.RowKit Go.IntWalk
structure Pkg where
 name : Bs
 ver : Bs
 rcp : Bs
 tree : List Touch
def fullT (n : Bs) (f : Touch) : Touch := ⟨n ++ 47 :: f.path,f.dig⟩
def pkgE (seen : List Bs) (p : Pkg) : Int :=
 if (partOK p.name && partOK p.ver) = false then 2 else if seen.contains p.name then 6 else if treeE p.tree ≠ 0 then 1
 else if p.tree.any (fun f => !pathOK (p.name ++ 47 :: f.path)) then 2 else if p.tree.any (fun f => f.path == p.rcp) = false then 7 else 0
def distFrom (seen : List Bs) (n : Nat) : List Pkg → Int
 | [] => 0
 | p :: r => if pkgE seen p ≠ 0 then pkgE seen p else if 64 < n + p.tree.length then 10 else distFrom (seen ++ [p.name]) (n + p.tree.length) r
def distE (d : List Pkg) : Int := if 16 < d.length then 10 else distFrom [] 0 d
def lineP (p : Pkg) : Bs := p.name ++ 32 :: (p.ver ++ 32 :: (p.rcp ++ [10]))
def textD : List Pkg → Bs
 | [] => []
 | p :: r => lineP p ++ textD r
def allD : List Pkg → List Touch
 | [] => []
 | p :: r => p.tree.map (fullT p.name) ++ allD r
def tp (t : Touch) : PD := (t.path,t.dig)
def pt (x : PD) : Touch := ⟨x.1,x.2⟩
def sortT (l : List Touch) : List Touch := (sortPD (l.map tp)).map pt
def listE (d : List Pkg) : Bs × List Touch × Int := if distE d ≠ 0 then ([],[],1) else (textD d,sortT (allD d),0)
def stripP (n : Bs) (f : Touch) : Option Touch := if (n ++ [47]).isPrefixOf f.path then some ⟨f.path.drop (n.length + 1),f.dig⟩ else none
def pkgOf (src : List Touch) (w : List Bs) : Pkg := ⟨w.getD 0 [],w.getD 1 [],w.getD 2 [],src.filterMap (stripP (w.getD 0 []))⟩
def totalD (d : List Pkg) : Nat := (d.map (·.tree.length)).sum
def joinE (text : Bs) (src : List Touch) : List Pkg × Int :=
 if treeE src ≠ 0 then ([],1) else match rowsE text with
 | none => ([],4)
 | some l => if l.any (fun w => decide (w.length ≠ 3)) then ([],4) else if distE (l.map (pkgOf src)) ≠ 0 then ([],1) else if totalD (l.map (pkgOf src)) ≠ src.length then ([],9) else (l.map (pkgOf src),0)
theorem part_chars {s : Bs} (h : partOK s = true) : s ≠ [] ∧ ∀ b ∈ s,b ≠ 47 ∧ b ≠ 32 ∧ b ≠ 10 := by
 match s,h with
 | [],h => simp [partOK] at h
 | c :: r,h =>
  simp only [partOK,Bool.and_eq_true] at h
  refine ⟨by simp,fun b hb => ?_⟩
  have := List.all_eq_true.1 h.2 b hb
  refine ⟨?_,?_,?_⟩ <;> (intro e; subst e; revert this; decide)
theorem splitBy_parts (c : UInt8) : ∀ (s : Bs) (b : UInt8),b ∈ s → b ≠ c → ∃ w ∈ splitBy c s,b ∈ w
 | [],b,h,_ => by cases h
 | x :: r,b,h,hne => by
  have ih := splitBy_parts c r b
  unfold splitBy
  split
  ·rename_i e
   rcases List.mem_cons.1 h with rfl | h
   ·exact absurd (by simpa using e) hne
   ·obtain ⟨w,h1,h2⟩ := ih h hne
    exact ⟨w,List.mem_cons_of_mem _ h1,h2⟩
  ·cases hs : splitBy c r with
   | nil => exact absurd hs (splitBy_ne c r)
   | cons p ps =>
    rcases List.mem_cons.1 h with rfl | h
    ·exact ⟨b :: p,by simp,by simp⟩
    ·obtain ⟨w,h1,h2⟩ := ih h hne
     rw [hs] at h1
     rcases List.mem_cons.1 h1 with rfl | h1
     ·exact ⟨x :: w,by simp,by simp [h2]⟩
     ·exact ⟨w,by simp [h1],h2⟩
theorem path_chars {s : Bs} (h : pathOK s = true) : s ≠ [] ∧ ∀ b ∈ s,b ≠ 32 ∧ b ≠ 10 := by
 have h2 : (splitBy 47 s).all partOK = true := by
  unfold pathOK at h
  simp only [Bool.and_eq_true] at h
  exact h.2
 refine ⟨fun e => ?_,fun b hb => ?_⟩
 ·subst e; simp [splitBy,partOK] at h2
 ·by_cases e : b = 47
  ·subst e; decide
  ·obtain ⟨w,h3,h4⟩ := splitBy_parts 47 s b hb e
   have := (part_chars (List.all_eq_true.1 h2 w h3)).2 b h4
   exact this.2
theorem part_noslash {s : Bs} (h : partOK s = true) : (47 : UInt8) ∉ s := fun hm => ((part_chars h).2 47 hm).1 rfl
theorem prefix_iff {n p : Bs} : (n ++ [47]).isPrefixOf p = true ↔ ∃ r,p = n ++ 47 :: r := by
 rw [List.isPrefixOf_iff_prefix]
 constructor
 ·rintro ⟨r,rfl⟩; exact ⟨r,by simp⟩
 ·rintro ⟨r,rfl⟩; exact ⟨r,by simp⟩
theorem slash_one : ∀ {a b x y : Bs},(47 : UInt8) ∉ a → (47 : UInt8) ∉ b → a ++ 47 :: x = b ++ 47 :: y → a = b ∧ x = y
 | [],[],x,y,_,_,h => by simpa using h
 | [],c :: b,x,y,_,hb,h => by
  simp only [List.nil_append,List.cons_append,List.cons.injEq] at h
  exact absurd (by rw [← h.1]; simp) hb
 | c :: a,[],x,y,ha,_,h => by
  simp only [List.nil_append,List.cons_append,List.cons.injEq] at h
  exact absurd (by rw [h.1]; simp) ha
 | c :: a,d :: b,x,y,ha,hb,h => by
  simp only [List.cons_append,List.cons.injEq] at h
  obtain ⟨h1,h2⟩ := h
  obtain ⟨h3,h4⟩ := slash_one (fun e => ha (List.mem_cons_of_mem _ e)) (fun e => hb (List.mem_cons_of_mem _ e)) h2
  exact ⟨by rw [h1,h3],h4⟩
theorem stripP_mid (n x d : Bs) : stripP n ⟨n ++ 47 :: x,d⟩ = some ⟨x,d⟩ := by
 have h : (n ++ [47]).isPrefixOf (n ++ 47 :: x) = true := prefix_iff.2 ⟨x,rfl⟩
 unfold stripP
 rw [if_pos h]
 have : (n ++ 47 :: x).drop (n.length + 1) = x := by
  rw [← List.drop_drop,List.drop_left]; rfl
 simp only [this]
theorem stripP_none {n : Bs} {f : Touch} (h : ∀ r,f.path ≠ n ++ 47 :: r) : stripP n f = none := by
 unfold stripP
 rw [if_neg]
 intro e
 obtain ⟨r,hr⟩ := prefix_iff.1 e
 exact h r hr
def before (a b : Touch) : Prop := a.path < b.path ∧ belowE b.path a.path = false
theorem treeFrom_iff : ∀ (t pre : List Touch),pre.Pairwise before → (treeFrom pre t = 0 ↔ (∀ f ∈ t,pathOK f.path = true ∧ f.dig.length ≤ 65536) ∧ (pre ++ t).Pairwise before)
 | [],pre,hp => by simp [treeFrom,hp]
 | f :: r,pre,hp => by
  rw [treeFrom]
  by_cases h1 : pathOK f.path = false
  ·rw [if_pos h1]
   constructor
   ·intro h; cases h
   ·rintro ⟨h,_⟩; have := (h f (by simp)).1; rw [h1] at this; cases this
  ·rw [if_neg h1]
   by_cases h2 : 65536 < f.dig.length
   ·rw [if_pos h2]
    constructor
    ·intro h; cases h
    ·rintro ⟨h,_⟩; have := (h f (by simp)).2; omega
   ·rw [if_neg h2]
    by_cases h3 : (pre.getLast?.map fun g => Op.bytesLess g.path f.path) = some false
    ·rw [if_pos h3]
     constructor
     ·intro h; cases h
     ·rintro ⟨_,h⟩
      obtain ⟨g,hg,hl⟩ := Option.map_eq_some_iff.1 h3
      have hb := (List.pairwise_append.1 h).2.2 g (List.mem_of_getLast? hg) f (by simp)
      rw [bytesLess_eq] at hl
      have := of_decide_eq_false hl
      exact absurd hb.1 this
    ·rw [if_neg h3]
     have hall : ∀ g ∈ pre,g.path < f.path := by
      intro g hg
      cases hl : pre.getLast? with
      | none => rw [List.getLast?_eq_none_iff] at hl; subst hl; cases hg
      | some z =>
       rw [hl] at h3
       have hz : z.path < f.path := by
        simp only [Option.map_some,Option.some.injEq] at h3
        rw [bytesLess_eq] at h3
        simpa using h3
       obtain ⟨ys,rfl⟩ := List.getLast?_eq_some_iff.1 hl
       rcases List.mem_append.1 hg with hg | hg
       ·exact List.lt_trans ((List.pairwise_append.1 hp).2.2 g hg z (by simp)).1 hz
       ·obtain rfl : g = z := by simpa using hg
        exact hz
     by_cases h4 : pre.any (fun g => belowE f.path g.path) = true
     ·rw [if_pos h4]
      constructor
      ·intro h; cases h
      ·rintro ⟨_,h⟩
       obtain ⟨g,hg,hb⟩ := List.any_eq_true.1 h4
       have := ((List.pairwise_append.1 h).2.2 g hg f (by simp)).2
       rw [hb] at this; cases this
     ·rw [if_neg h4]
      have hp2 : (pre ++ [f]).Pairwise before := by
       rw [List.pairwise_append]
       refine ⟨hp,by simp,fun a ha b hb => ?_⟩
       obtain rfl : b = f := by simpa using hb
       refine ⟨hall a ha,?_⟩
       cases hc : belowE b.path a.path with
       | false => rfl
       | true => exact absurd (List.any_eq_true.2 ⟨a,ha,hc⟩) h4
      rw [treeFrom_iff r (pre ++ [f]) hp2,List.append_assoc]
      simp only [List.singleton_append]
      constructor
      ·rintro ⟨a,b⟩
       refine ⟨fun g hg => ?_,b⟩
       rcases List.mem_cons.1 hg with rfl | hg
       ·exact ⟨by simpa using h1,by omega⟩
       ·exact a g hg
      ·rintro ⟨a,b⟩
       exact ⟨fun g hg => a g (List.mem_cons_of_mem _ hg),b⟩
theorem treeE_iff {t : List Touch} : treeE t = 0 ↔ t.length ≤ 64 ∧ (∀ f ∈ t,pathOK f.path = true ∧ f.dig.length ≤ 65536) ∧ t.Pairwise before := by
 unfold treeE
 by_cases h : 64 < t.length
 ·rw [if_pos h]
  constructor
  ·intro h; cases h
  ·rintro ⟨a,_⟩; omega
 ·rw [if_neg h,treeFrom_iff t [] .nil]
  simp only [List.nil_append]
  constructor
  ·rintro ⟨a,b⟩; exact ⟨by omega,a,b⟩
  ·rintro ⟨_,a,b⟩; exact ⟨a,b⟩
theorem below_lt : ∀ {a b : Bs},belowE b a = true → a < b := by
 intro a b h
 obtain ⟨r,rfl⟩ := prefix_iff.1 h
 induction a with
 | nil => simp
 | cons c a ih => simpa using ih (prefix_iff.2 ⟨r,rfl⟩)
theorem tree_below {t : List Touch} (h : treeE t = 0) {f g : Touch} (hf : f ∈ t) (hg : g ∈ t) : belowE f.path g.path = false := by
 obtain ⟨_,_,hp⟩ := treeE_iff.1 h
 cases hb : belowE f.path g.path with
 | false => rfl
 | true =>
  exfalso
  have hlt := below_lt hb
  obtain ⟨i,hi⟩ := List.mem_iff_getElem?.1 hf
  obtain ⟨j,hj⟩ := List.mem_iff_getElem?.1 hg
  obtain ⟨hi1,hi2⟩ := List.getElem?_eq_some_iff.1 hi
  obtain ⟨hj1,hj2⟩ := List.getElem?_eq_some_iff.1 hj
  have hpw := List.pairwise_iff_getElem.1 hp
  rcases Nat.lt_trichotomy i j with h1 | h1 | h1
  ·have := (hpw i j hi1 hj1 h1).1
   rw [hi2,hj2] at this
   exact List.lt_irrefl _ (List.lt_trans this hlt)
  ·subst h1
   rw [hi2] at hj2; subst hj2
   exact List.lt_irrefl _ hlt
  ·have := (hpw j i hj1 hi1 h1).2
   rw [hi2,hj2,hb] at this
   cases this
structure PkgOK (p : Pkg) : Prop where
 name : partOK p.name = true
 ver : partOK p.ver = true
 tree : treeE p.tree = 0
 path : ∀ f ∈ p.tree,pathOK (p.name ++ 47 :: f.path) = true
 rcp : ∃ f ∈ p.tree,f.path = p.rcp
theorem pkgE_ok {seen : List Bs} {p : Pkg} (h : pkgE seen p = 0) : PkgOK p ∧ p.name ∉ seen := by
 unfold pkgE at h
 split at h
 ·cases h
 ·rename_i h1
  split at h
  ·cases h
  ·rename_i h2
   split at h
   ·cases h
   ·rename_i h3
    split at h
    ·cases h
    ·rename_i h4
     split at h
     ·cases h
     ·rename_i h5
      simp only [Bool.not_eq_false,Bool.and_eq_true] at h1
      refine ⟨⟨h1.1,h1.2,by simpa using h3,fun f hf => ?_,?_⟩,fun hm => h2 (by simpa using hm)⟩
      ·cases hp : pathOK (p.name ++ 47 :: f.path) with
       | true => rfl
       | false => exact absurd (List.any_eq_true.2 ⟨f,hf,by simp [hp]⟩) h4
      ·simp only [Bool.not_eq_false] at h5
       obtain ⟨f,hf,hr⟩ := List.any_eq_true.1 h5
       exact ⟨f,hf,by simpa using hr⟩
theorem distFrom_ok : ∀ {d : List Pkg} {seen : List Bs} {n : Nat},n ≤ 64 → distFrom seen n d = 0 → (∀ p ∈ d,PkgOK p ∧ p.name ∉ seen) ∧ d.Pairwise (fun p q => p.name ≠ q.name) ∧ n + totalD d ≤ 64
 | [],seen,n,hn,_ => ⟨by simp,.nil,by simpa [totalD] using hn⟩
 | p :: r,seen,n,hn,h => by
  rw [distFrom] at h
  split at h
  ·rename_i h1; exact absurd h h1
  ·rename_i h1
   split at h
   ·cases h
   ·rename_i h2
    obtain ⟨k1,k2,k3⟩ := distFrom_ok (by omega) h
    obtain ⟨h3,h4⟩ := pkgE_ok (by simpa using h1)
    refine ⟨fun q hq => ?_,List.pairwise_cons.2 ⟨fun q hq e => (k1 q hq).2 (by simp [e]),k2⟩,?_⟩
    ·rcases List.mem_cons.1 hq with rfl | hq
     ·exact ⟨h3,h4⟩
     ·exact ⟨(k1 q hq).1,fun hm => (k1 q hq).2 (by simp [hm])⟩
    ·simp only [totalD,List.map_cons,List.sum_cons] at k3 ⊢; omega
theorem distE_ok {d : List Pkg} (h : distE d = 0) : d.length ≤ 16 ∧ (∀ p ∈ d,PkgOK p) ∧ d.Pairwise (fun p q => p.name ≠ q.name) ∧ totalD d ≤ 64 := by
 unfold distE at h
 split at h
 ·cases h
 ·obtain ⟨k1,k2,k3⟩ := distFrom_ok (by omega) h
  exact ⟨by omega,fun p hp => (k1 p hp).1,k2,by omega⟩
theorem lex_app : ∀ (n : Bs) {x y : Bs},n ++ x < n ++ y ↔ x < y
 | [],x,y => Iff.rfl
 | c :: n,x,y => by
  have ih := lex_app n (x := x) (y := y)
  simp only [List.cons_append,List.cons_lt_cons_iff,UInt8.lt_irrefl,false_or,true_and]
  exact ih
theorem all_mem {d : List Pkg} {x : Touch} : x ∈ allD d ↔ ∃ p ∈ d,∃ f ∈ p.tree,x = fullT p.name f := by
 induction d with
 | nil => simp [allD]
 | cons q r ih =>
  simp only [allD,List.mem_append,List.mem_map,ih,List.mem_cons]
  constructor
  ·rintro (⟨f,hf,rfl⟩ | ⟨p,hp,f,hf,rfl⟩)
   ·exact ⟨q,.inl rfl,f,hf,rfl⟩
   ·exact ⟨p,.inr hp,f,hf,rfl⟩
  ·rintro ⟨p,rfl | hp,f,hf,rfl⟩
   ·exact .inl ⟨f,hf,rfl⟩
   ·exact .inr ⟨p,hp,f,hf,rfl⟩
theorem all_len (d : List Pkg) : (allD d).length = totalD d := by
 induction d with
 | nil => rfl
 | cons p r ih => simp [allD,totalD] at ih ⊢; omega
section
variable {d : List Pkg} (hok : ∀ p ∈ d,PkgOK p) (hnm : d.Pairwise (fun p q => p.name ≠ q.name))
include hok hnm
theorem name_one {p q : Pkg} (hp : p ∈ d) (hq : q ∈ d) (e : p.name = q.name) : p = q := by
 have _ : True := (fun _ => trivial) hok
 clear hok
 induction d with
 | nil => cases hp
 | cons z r ih =>
  obtain ⟨h1,h2⟩ := List.pairwise_cons.1 hnm
  rcases List.mem_cons.1 hp with hp1 | hp1
  ·rcases List.mem_cons.1 hq with hq1 | hq1
   ·rw [hp1,hq1]
   ·subst hp1; exact absurd e (h1 q hq1)
  ·rcases List.mem_cons.1 hq with hq1 | hq1
   ·subst hq1; exact absurd e.symm (h1 p hp1)
   ·exact ih h2 hp1 hq1
theorem all_below {x y : Touch} (hx : x ∈ allD d) (hy : y ∈ allD d) : belowE x.path y.path = false := by
 obtain ⟨p,hp,f,hf,rfl⟩ := all_mem.1 hx
 obtain ⟨q,hq,g,hg,rfl⟩ := all_mem.1 hy
 cases hb : belowE (fullT p.name f).path (fullT q.name g).path with
 | false => rfl
 | true =>
  exfalso
  obtain ⟨r,hr⟩ := prefix_iff.1 hb
  simp only [fullT,List.append_assoc,List.cons_append] at hr
  obtain ⟨e1,e2⟩ := slash_one (part_noslash (hok p hp).name) (part_noslash (hok q hq).name) hr
  obtain rfl := name_one hok hnm hp hq e1
  have := tree_below (hok p hp).tree hf hg
  rw [show belowE f.path g.path = true from prefix_iff.2 ⟨r,e2⟩] at this
  cases this
theorem all_dist : ((allD d).map tp).Pairwise (fun a b => a.1 ≠ b.1) := by
 rw [List.pairwise_map]
 have key : ∀ e : List Pkg,(∀ p ∈ e,p ∈ d) → e.Pairwise (fun p q => p.name ≠ q.name) → (allD e).Pairwise (fun a b => (tp a).1 ≠ (tp b).1) := by
  intro e
  induction e with
  | nil => intro _ _; exact .nil
  | cons p r ih =>
   intro hs hn
   obtain ⟨n1,n2⟩ := List.pairwise_cons.1 hn
   simp only [allD]
   rw [List.pairwise_append]
   refine ⟨?_,ih (fun q hq => hs q (by simp [hq])) n2,?_⟩
   ·rw [List.pairwise_map]
    obtain ⟨_,_,hp⟩ := treeE_iff.1 (hok p (hs p (by simp))).tree
    refine hp.imp fun {a b} hab e => ?_
    simp only [tp,fullT,List.append_cancel_left_eq,List.cons.injEq,true_and] at e
    have := hab.1
    rw [e] at this
    exact List.lt_irrefl _ this
   ·intro a ha b hb e
    obtain ⟨f,hf,rfl⟩ := List.mem_map.1 ha
    obtain ⟨q,hq,g,hg,rfl⟩ := all_mem.1 hb
    simp only [tp,fullT] at e
    have := (slash_one (part_noslash (hok p (hs p (by simp))).name) (part_noslash (hok q (hs q (by simp [hq]))).name) e).1
    exact n1 q hq this
 exact key d (fun _ h => h) hnm
theorem sort_perm : (sortT (allD d)).Perm (allD d) := by
 have _ : True := (fun _ _ => trivial) hok hnm
 have h := (sortPD_perm ((allD d).map tp)).map pt
 have e : ((allD d).map tp).map pt = allD d := by rw [List.map_map]; exact List.map_id'' (fun _ => rfl) _
 rw [e] at h
 exact h
theorem sort_lt : (sortT (allD d)).Pairwise (fun a b => a.path < b.path) := by
 unfold sortT
 rw [List.pairwise_map]
 have h1 := sortPD_sorted ((allD d).map tp)
 have h2 : (sortPD ((allD d).map tp)).Pairwise (fun a b => a.1 ≠ b.1) := (sortPD_perm _).symm.pairwise (all_dist hok hnm) (fun hab => hab.symm)
 refine (h1.and h2).imp fun {a b} hab => ?_
 rw [leqP_iff] at hab
 rcases List.le_iff_lt_or_eq.1 hab.1 with h | h
 ·exact h
 ·exact absurd h hab.2
theorem sort_tree (ht : totalD d ≤ 64) : treeE (sortT (allD d)) = 0 := by
 rw [treeE_iff]
 have hp := sort_perm hok hnm
 refine ⟨by rw [hp.length_eq,all_len]; exact ht,fun x hx => ?_,?_⟩
 ·obtain ⟨p,hp2,f,hf,rfl⟩ := all_mem.1 (hp.subset hx)
  exact ⟨(hok p hp2).path f hf,((treeE_iff.1 (hok p hp2).tree).2.1 f hf).2⟩
 ·exact (sort_lt hok hnm).imp_of_mem fun {a b} ha hb hab => ⟨hab,all_below hok hnm (hp.subset hb) (hp.subset ha)⟩
theorem all_strip {p : Pkg} (hp : p ∈ d) : (allD d).filterMap (stripP p.name) = p.tree := by
 have hself : (p.tree.map (fullT p.name)).filterMap (stripP p.name) = p.tree := by
  rw [List.filterMap_map]
  have : (stripP p.name ∘ fullT p.name) = some := by funext f; exact stripP_mid _ _ _
  rw [this]; simp
 have hoth : ∀ q ∈ d,q.name ≠ p.name → (q.tree.map (fullT q.name)).filterMap (stripP p.name) = [] := by
  intro q hq hne
  rw [List.filterMap_eq_nil_iff]
  intro x hx
  obtain ⟨f,hf,rfl⟩ := List.mem_map.1 hx
  exact stripP_none fun r e => hne (slash_one (part_noslash (hok q hq).name) (part_noslash (hok p hp).name) e).1
 have key : ∀ e : List Pkg,(∀ q ∈ e,q ∈ d) → e.Pairwise (fun p q => p.name ≠ q.name) → (allD e).filterMap (stripP p.name) = if p.name ∈ e.map (·.name) then p.tree else [] := by
  intro e
  induction e with
  | nil => intro _ _; rfl
  | cons q r ih =>
   intro hs hn
   obtain ⟨n1,n2⟩ := List.pairwise_cons.1 hn
   simp only [allD,List.filterMap_append]
   rw [ih (fun z hz => hs z (by simp [hz])) n2]
   by_cases hq : q.name = p.name
   ·obtain rfl := name_one hok hnm (hs q (by simp)) hp hq
    rw [hself,if_neg,if_pos (by simp)]
    ·simp
    ·intro hm
     obtain ⟨z,hz,e⟩ := List.mem_map.1 hm
     exact n1 z hz e.symm
   ·rw [hoth q (hs q (by simp)) hq]
    have : (p.name ∈ (q :: r).map (·.name)) ↔ (p.name ∈ r.map (·.name)) := by simp [Ne.symm hq]
    simp only [this,List.nil_append]
 rw [key d (fun _ h => h) hnm,if_pos (List.mem_map.2 ⟨p,hp,rfl⟩)]
theorem sort_strip {p : Pkg} (hp : p ∈ d) : (sortT (allD d)).filterMap (stripP p.name) = p.tree := by
 have hperm : ((sortT (allD d)).filterMap (stripP p.name)).Perm p.tree := by
  have := (sort_perm hok hnm).filterMap (stripP p.name)
  rwa [all_strip hok hnm hp] at this
 have hs : ((sortT (allD d)).filterMap (stripP p.name)).Pairwise (fun a b => a.path < b.path) := by
  rw [List.pairwise_filterMap]
  refine (sort_lt hok hnm).imp fun {a b} hab x hx y hy => ?_
  unfold stripP at hx hy
  split at hx
  ·rename_i h1
   split at hy
   ·rename_i h2
    obtain ⟨u,hu⟩ := prefix_iff.1 h1
    obtain ⟨v,hv⟩ := prefix_iff.1 h2
    injection hx with hx; injection hy with hy
    subst hx; subst hy
    have dr : ∀ z : Bs,(p.name ++ 47 :: z).drop (p.name.length + 1) = z := fun z => by rw [← List.drop_drop,List.drop_left]; rfl
    simp only [hu,hv,dr]
    rw [hu,hv,lex_app] at hab
    simpa using hab
   ·cases hy
  ·cases hx
 have ht : p.tree.Pairwise (fun a b => a.path < b.path) := (treeE_iff.1 (hok p hp).tree).2.2.imp fun {a b} h => h.1
 exact List.Perm.eq_of_pairwise (le := fun a b => a.path < b.path) (fun a b _ _ h1 h2 => absurd (List.lt_trans h1 h2) (List.lt_irrefl _)) hs ht hperm
end
theorem split_line {p : Pkg} (h : PkgOK p) : splitBy 32 (p.name ++ 32 :: (p.ver ++ 32 :: p.rcp)) = [p.name,p.ver,p.rcp] := by
 obtain ⟨f,hf,hr⟩ := h.rcp
 have h1 : (32 : UInt8) ∉ p.name := fun hm => ((part_chars h.name).2 32 hm).2.1 rfl
 have h2 : (32 : UInt8) ∉ p.ver := fun hm => ((part_chars h.ver).2 32 hm).2.1 rfl
 have h3 : (32 : UInt8) ∉ p.rcp := fun hm => by rw [← hr] at hm; exact ((path_chars ((treeE_iff.1 h.tree).2.1 f hf).1).2 32 hm).1 rfl
 rw [splitBy_mid 32 p.name _ h1,splitBy_mid 32 p.ver _ h2,splitBy_none 32 p.rcp h3]
theorem rows_text : ∀ {d : List Pkg},(∀ p ∈ d,PkgOK p) → rowsE (textD d) = some (d.map fun p => [p.name,p.ver,p.rcp])
 | [],_ => rfl
 | p :: r,h => by
  have ih := rows_text (d := r) fun q hq => h q (by simp [hq])
  have hp := h p (by simp)
  obtain ⟨f,hf,hr⟩ := hp.rcp
  have hpath := ((treeE_iff.1 hp.tree).2.1 f hf).1
  rw [hr] at hpath
  have hl : (10 : UInt8) ∉ p.name ++ 32 :: (p.ver ++ 32 :: p.rcp) := by
   intro hm
   simp only [List.mem_append,List.mem_cons] at hm
   rcases hm with hm | hm | hm | hm | hm
   ·exact ((part_chars hp.name).2 10 hm).2.2 rfl
   ·exact absurd hm (by decide)
   ·exact ((part_chars hp.ver).2 10 hm).2.2 rfl
   ·exact absurd hm (by decide)
   ·exact ((path_chars hpath).2 10 hm).2 rfl
  have e : textD (p :: r) = (p.name ++ 32 :: (p.ver ++ 32 :: p.rcp)) ++ 10 :: textD r := by simp [textD,lineP]
  rw [e,rowsE_mid hl,split_line hp,ih]
  have hc : ([p.name,p.ver,p.rcp] : List Bs).contains [] = false := by
   have n1 := (part_chars hp.name).1
   have n2 := (part_chars hp.ver).1
   have n3 := (path_chars hpath).1
   simp [Ne.symm n1,Ne.symm n2,Ne.symm n3]
  rw [hc]; rfl
theorem join_list {d : List Pkg} (h : distE d = 0) : joinE (textD d) (sortT (allD d)) = (d,0) := by
 obtain ⟨_,hok,hnm,ht⟩ := distE_ok h
 unfold joinE
 rw [sort_tree hok hnm ht,rows_text hok]
 simp only [ne_eq,not_true_eq_false,if_false]
 have hm : (d.map fun p => [p.name,p.ver,p.rcp]).map (pkgOf (sortT (allD d))) = d := by
  rw [List.map_map]
  conv => rhs; rw [← List.map_id d]
  refine List.map_congr_left fun p hp => ?_
  show (⟨p.name,p.ver,p.rcp,(sortT (allD d)).filterMap (stripP p.name)⟩ : Pkg) = p
  rw [sort_strip hok hnm hp]
 rw [hm,h]
 have hlen : totalD d = (sortT (allD d)).length := by rw [(sort_perm hok hnm).length_eq,all_len]
 rw [if_neg (by simp),if_neg (by simp),if_neg (by simp [hlen])]
def insR (f : Touch) : List Touch → List Touch
 | [] => [f]
 | g :: r => if Op.bytesLess g.path f.path then g :: insR f r else f :: g :: r
def leT (a b : Touch) : Prop := a.path ≤ b.path
theorem insR_perm (f : Touch) : ∀ t,(insR f t).Perm (f :: t)
 | [] => .refl _
 | g :: r => by
  unfold insR
  split
  ·exact ((insR_perm f r).cons g).trans (.swap f g r)
  ·exact .refl _
theorem insR_sorted (f : Touch) : ∀ {t : List Touch},t.Pairwise leT → (insR f t).Pairwise leT
 | [],_ => by simp [insR]
 | g :: r,h => by
  obtain ⟨h1,h2⟩ := List.pairwise_cons.1 h
  unfold insR
  split
  ·rename_i hl
   rw [bytesLess_eq] at hl
   refine List.pairwise_cons.2 ⟨fun z hz => ?_,insR_sorted f h2⟩
   rcases List.mem_cons.1 ((insR_perm f r).subset hz) with rfl | hz
   ·exact List.le_of_lt (of_decide_eq_true hl)
   ·exact h1 z hz
  ·rename_i hl
   rw [bytesLess_eq] at hl
   have hgf : f.path ≤ g.path := List.not_lt.1 (by simpa using hl)
   refine List.pairwise_cons.2 ⟨fun z hz => ?_,h⟩
   rcases List.mem_cons.1 hz with rfl | hz
   ·exact hgf
   ·exact List.le_trans hgf (h1 z hz)
def insAll (l o : List Touch) : List Touch := l.foldl (fun o x => insR x o) o
theorem insAll_ok : ∀ (l o : List Touch),o.Pairwise leT → (insAll l o).Pairwise leT ∧ (insAll l o).Perm (o ++ l)
 | [],o,h => ⟨h,by simp [insAll]⟩
 | x :: l,o,h => by
  obtain ⟨h1,h2⟩ := insAll_ok l (insR x o) (insR_sorted x h)
  refine ⟨h1,h2.trans ?_⟩
  exact ((insR_perm x o).append_right l).trans (List.perm_middle.symm)
theorem ins_sort {d : List Pkg} (h : distE d = 0) : insAll (allD d) [] = sortT (allD d) := by
 obtain ⟨_,hok,hnm,_⟩ := distE_ok h
 obtain ⟨h1,h2⟩ := insAll_ok (allD d) [] .nil
 have hd : distP ((allD d).map tp) = true := distP_iff.2 (all_dist hok hnm)
 have hs : ((insAll (allD d) []).map tp).Pairwise (fun a b => leqP a b = true) := by
  rw [List.pairwise_map]
  exact h1.imp fun {a b} hab => leqP_iff.2 hab
 have e := sorted_one hd (h2.map tp) hs
 unfold sortT
 rw [← e,List.map_map]
 exact (List.map_id'' (fun _ => rfl) _).symm
end Go.Proofs.YtopiadllkglamaaGreatDoor
namespace Go.Proofs.YtopiadllkglamaaGreatDoor
open Go.RowKit Go.IntWalk
def Pkg.row (p : Pkg) : List AV := [.str p.name,.str p.ver,.str p.rcp,.sl (touchRows p.tree)]
def decPkg : List AV → Option Pkg
 | [.str a,.str b,.str c,.sl rows] => (decAll decTouch rows).map fun t => ⟨a,b,c,t⟩
 | _ => none
theorem decPkg_row (p : Pkg) : decPkg p.row = some p := by simp [decPkg,Pkg.row]
theorem decPkg_of {row : List AV} {p : Pkg} (h : decPkg row = some p) : row = p.row := by
 unfold decPkg at h
 split at h
 ·rename_i a b c rows
  simp only [Option.map_eq_some_iff] at h
  obtain ⟨t,h1,rfl⟩ := h
  have := decAll_of (fun r x => decTouch_of) h1
  subst this; rfl
 ·cases h
def distRows (d : List Pkg) : List (List AV) := d.map Pkg.row
@[simp] theorem distRows_len {d : List Pkg} : (distRows d).length = d.length := by simp [distRows]
theorem distRows_get {d : List Pkg} {i : Nat} {p : Pkg} (h : d[i]? = some p) : (distRows d)[i]? = some [.str p.name,.str p.ver,.str p.rcp,.sl (touchRows p.tree)] := by simp [distRows,h,Pkg.row]
@[simp] theorem dec_distRows (d : List Pkg) : decAll decPkg (distRows d) = some d := decAll_enc decPkg_row d
def okPkg (p : Pkg) : Bool := decide (p.name.length ≤ 1000000000) && decide (p.ver.length ≤ 1000000000) && decide (p.rcp.length ≤ 1000000000) && decide (p.tree.length ≤ 1000000000) && p.tree.all fun f => decide (f.path.length ≤ 1000000000) && decide (f.dig.length ≤ 4294967296)
def okDist (d : List Pkg) : Bool := decide (d.length ≤ 1000000000) && d.all okPkg
def F_distE : List AV → Option AV
 | [.sl rows] => match decAll decPkg rows with
  | some d => if okDist d then some (.int .i64 (distE d)) else none
  | none => none
 | _ => none
def F_join : List AV → Option AV
 | [.str s,.sl rows] => match decAll decTouch rows with
  | some t => if s.length ≤ 900000 ∧ t.length ≤ 1000 ∧ (t.all fun f => decide (f.path.length ≤ 1000000) && decide (f.dig.length ≤ 1000000)) = true then some (.tup [.sl (distRows (joinE s t).1),.int .i64 (joinE s t).2]) else none
  | none => none
 | _ => none
end Go.Proofs.YtopiadllkglamaaGreatDoor
namespace Go.Proofs.YtopiadllkglamaaGreatDoor
open Go.RowKit Go.IntWalk
theorem idxf_loop_slices_IndexFunc_____string___string_ (G : Gam) (h : Heap) (rows : List (List AV)) (f : FuncId) (caps : List AV) (hb : rows.length ≤ big) : ∀ (rest : List (List AV)) (i : Nat) (v : Int),rows.drop i = rest → findA (fun row => if row.length = 1 then (mkVal false 1 row).bind (ask G h f caps) else none) i rest = some v →
  headM G [5] Mc.q13_L0 h.length [.blk 0,.seq (.seq (.reg [⟨none,some 4,true,.mv,[.c (.int .i64 (-1))]⟩]) .ret)] (lookQ Rs.q13 (.int .i64 v) h)
  [(0,.sl rows),(1,.fn f caps),(4,.int .i64 0),(5,.junk),(7,.int .i64 rows.length),(8,.int .i64 i)] h
 | [],i,v,hd,hv => by
  have hi := drop_nil hd
  have hi' : ¬ (i : Int) < rows.length := by omega
  simp only [findA,Option.some.injEq] at hv; subst hv
  refine head_go (Mc.q13_L0.eq_1) ?_
  simp [ltB,hi',lookQ,Rs.q13,owns,freezeAll]
 | x :: rest,i,v,hd,hv => by
  obtain ⟨hi,hx,hxd⟩ := drop_cons hd
  have hi' : (i : Int) < rows.length := by omega
  have hw := wrap1 (i := i) (by omega)
  by_cases hl : x.length = 1
  ·simp only [findA,hl,if_true] at hv
   cases hm : mkVal false 1 x with
   | none => simp [hm] at hv
   | some a =>
    simp only [hm,Option.bind_some] at hv
    have hcut : mkVal false 1 (cut x 0 1) = some a := by rw [cut_all hl]; exact hm
    cases ha : ask G h f caps a with
    | none => simp [ha] at hv
    | some b =>
     have hc := ask_call ha
     simp only [ha] at hv
     refine head_go (Mc.q13_L0.eq_1) ?_
     cases b with
     | true =>
      simp only [Option.some.injEq] at hv; subst hv
      simp [ltB,hi',iadr_sl hx hl,hcut,hc,lookQ,Rs.q13,owns,freezeAll]
     | false =>
      simp [ltB,hi',iadr_sl hx hl,hcut,hc,hw]
      refine head_of ?_
      have ih := idxf_loop_slices_IndexFunc_____string___string_ G h rows f caps hb rest (i + 1) v hxd hv
      simpa using ih
  ·simp [findA,hl] at hv
theorem idxf_ok_slices_IndexFunc_____string___string_ (G : Gam) : ∀ args h r,F_IndexFunc false 1 G args h = some r → wpM G Mc.q13 (lookQ Rs.q13 r h) [] (frInit Ks.q13 args) h := by
 intro args h r hF
 obtain ⟨rows,f,caps,v,rfl,hb,hv,rfl⟩ := F_IndexFunc_inv hF
 rw [wpM_go]
 have ih := idxf_loop_slices_IndexFunc_____string___string_ G h rows f caps hb rows 0 v rfl hv
 simpa [Mc.q13,frInit,Ks.q13] using ih
theorem contf_ok_slices_ContainsFunc_____string___string_ (G G0 : Gam) (hG : G Fn.q13 = some (.gen (lookF (F_IndexFunc false 1 G0)))) : ∀ args h r,F_ContainsFunc false 1 G0 args h = some r → wpM G Mc.q11 (lookQ Rs.q11 r h) [] (frInit Ks.q11 args) h := by
 intro args h r hF
 obtain ⟨rows,f,caps,v,rfl,hb,hv,rfl⟩ := F_ContainsFunc_inv hF
 rw [wpM_go]
 have hc : ∀ h0 : Heap,h0 = h → opV G false h0 (.call Fn.q13) (some [.sl rows,.fn f caps]) = some (.int .i64 v,h0) := fun h0 e => by subst e; rw [op_call_gen hG]; simp [lookF,F_IndexFunc,hb,hv]
 simp [Mc.q11,frInit,Ks.q11,hc,lookQ,Rs.q11,owns,freezeAll]
theorem idxf_loop_slices_IndexFunc_api_Distribution_api_Package_ (G : Gam) (h : Heap) (rows : List (List AV)) (f : FuncId) (caps : List AV) (hb : rows.length ≤ big) : ∀ (rest : List (List AV)) (i : Nat) (v : Int),rows.drop i = rest → findA (fun row => if row.length = 4 then (mkVal true 4 row).bind (ask G h f caps) else none) i rest = some v →
  headM G [5] Mc.q10_L0 h.length [.blk 0,.seq (.seq (.reg [⟨none,some 4,true,.mv,[.c (.int .i64 (-1))]⟩]) .ret)] (lookQ Rs.q10 (.int .i64 v) h)
  [(0,.sl rows),(1,.fn f caps),(4,.int .i64 0),(5,.junk),(7,.int .i64 rows.length),(8,.int .i64 i)] h
 | [],i,v,hd,hv => by
  have hi := drop_nil hd
  have hi' : ¬ (i : Int) < rows.length := by omega
  simp only [findA,Option.some.injEq] at hv; subst hv
  refine head_go (Mc.q10_L0.eq_1) ?_
  simp [ltB,hi',lookQ,Rs.q10,owns,freezeAll]
 | x :: rest,i,v,hd,hv => by
  obtain ⟨hi,hx,hxd⟩ := drop_cons hd
  have hi' : (i : Int) < rows.length := by omega
  have hw := wrap1 (i := i) (by omega)
  by_cases hl : x.length = 4
  ·simp only [findA,hl,if_true] at hv
   cases hm : mkVal true 4 x with
   | none => simp [hm] at hv
   | some a =>
    simp only [hm,Option.bind_some] at hv
    have hcut : mkVal true 4 (cut x 0 4) = some a := by rw [cut_all hl]; exact hm
    cases ha : ask G h f caps a with
    | none => simp [ha] at hv
    | some b =>
     have hc := ask_call ha
     simp only [ha] at hv
     refine head_go (Mc.q10_L0.eq_1) ?_
     cases b with
     | true =>
      simp only [Option.some.injEq] at hv; subst hv
      simp [ltB,hi',iadr_sl hx hl,hcut,hc,lookQ,Rs.q10,owns,freezeAll]
     | false =>
      simp [ltB,hi',iadr_sl hx hl,hcut,hc,hw]
      refine head_of ?_
      have ih := idxf_loop_slices_IndexFunc_api_Distribution_api_Package_ G h rows f caps hb rest (i + 1) v hxd hv
      simpa using ih
  ·simp [findA,hl] at hv
theorem idxf_ok_slices_IndexFunc_api_Distribution_api_Package_ (G : Gam) : ∀ args h r,F_IndexFunc true 4 G args h = some r → wpM G Mc.q10 (lookQ Rs.q10 r h) [] (frInit Ks.q10 args) h := by
 intro args h r hF
 obtain ⟨rows,f,caps,v,rfl,hb,hv,rfl⟩ := F_IndexFunc_inv hF
 rw [wpM_go]
 have ih := idxf_loop_slices_IndexFunc_api_Distribution_api_Package_ G h rows f caps hb rows 0 v rfl hv
 simpa [Mc.q10,frInit,Ks.q10] using ih
theorem contf_ok_slices_ContainsFunc_api_Distribution_api_Package_ (G G0 : Gam) (hG : G Fn.q10 = some (.gen (lookF (F_IndexFunc true 4 G0)))) : ∀ args h r,F_ContainsFunc true 4 G0 args h = some r → wpM G Mc.q9 (lookQ Rs.q9 r h) [] (frInit Ks.q9 args) h := by
 intro args h r hF
 obtain ⟨rows,f,caps,v,rfl,hb,hv,rfl⟩ := F_ContainsFunc_inv hF
 rw [wpM_go]
 have hc : ∀ h0 : Heap,h0 = h → opV G false h0 (.call Fn.q10) (some [.sl rows,.fn f caps]) = some (.int .i64 v,h0) := fun h0 e => by subst e; rw [op_call_gen hG]; simp [lookF,F_IndexFunc,hb,hv]
 simp [Mc.q9,frInit,Ks.q9,hc,lookQ,Rs.q9,owns,freezeAll]
end Go.Proofs.YtopiadllkglamaaGreatDoor
