/- The functions,resolved: by program (Gen.lean). -/
import Derived.Test.YtopiadllkglamaaGreatDoorZRecIds
namespace Go.Proofs.YtopiadllkglamaaGreatDoor
def Ks.q59 : List Nat := [0,2,3]
def Rs.q59 : List RV := [.tmp 2]
def Dl.q59 : List (List Nat) := [[]]
def Mc.q59_L0 : MC := (.seq (.seq (.reg [
 ⟨none,some 7,false,.mv,[.t 3]⟩,
 ⟨none,some 8,false,.mv,[.t 0]⟩,
 ⟨none,some 9,false,.len 1,[.t 8]⟩,
 ⟨none,some 10,false,.bin .lss,[.t 7,.t 9]⟩])
 (.ite (.t 10)
 .skip
 (.exit 0)))
 (.seq (.blk 1 (.seq (.reg [
 ⟨none,some 13,false,.mv,[.t 0]⟩,
 ⟨none,some 14,false,.mv,[.t 3]⟩,
 ⟨none,some 15,false,.iadr 4,[.t 13,.t 14]⟩,
 ⟨none,some 16,false,.fadr 3,[.t 15]⟩,
 ⟨none,some 17,false,.ld 1 false,[.t 16]⟩,
 ⟨none,some 18,false,.call Fn.q60,[.t 17,.c (.int .i64 24),.c (.int .i64 4000)]⟩,
 ⟨none,some 19,false,.un .not,[.t 18]⟩,
 ⟨none,some 20,false,.mv,[.t 19]⟩,
 ⟨some (20,false),some 21,false,.mv,[.t 0]⟩,
 ⟨some (20,false),some 22,false,.mv,[.t 3]⟩,
 ⟨some (20,false),some 23,false,.iadr 4,[.t 21,.t 22]⟩,
 ⟨some (20,false),some 24,false,.fadr 0,[.t 23]⟩,
 ⟨some (20,false),some 25,false,.ld 1 false,[.t 24]⟩,
 ⟨some (20,false),some 26,false,.len 0,[.t 25]⟩,
 ⟨some (20,false),some 27,false,.bin .gtr,[.t 26,.c (.int .i64 200)]⟩,
 ⟨none,some 28,false,.pick,[.t 20,.c (.bool true),.t 27]⟩,
 ⟨none,some 29,false,.mv,[.t 28]⟩,
 ⟨some (29,false),some 30,false,.mv,[.t 0]⟩,
 ⟨some (29,false),some 31,false,.mv,[.t 3]⟩,
 ⟨some (29,false),some 32,false,.iadr 4,[.t 30,.t 31]⟩,
 ⟨some (29,false),some 33,false,.fadr 1,[.t 32]⟩,
 ⟨some (29,false),some 34,false,.ld 1 false,[.t 33]⟩,
 ⟨some (29,false),some 35,false,.len 0,[.t 34]⟩,
 ⟨some (29,false),some 36,false,.bin .gtr,[.t 35,.c (.int .i64 200)]⟩,
 ⟨none,some 37,false,.pick,[.t 29,.c (.bool true),.t 36]⟩,
 ⟨none,some 38,false,.mv,[.t 37]⟩,
 ⟨some (38,false),some 39,false,.mv,[.t 0]⟩,
 ⟨some (38,false),some 40,false,.mv,[.t 3]⟩,
 ⟨some (38,false),some 41,false,.iadr 4,[.t 39,.t 40]⟩,
 ⟨some (38,false),some 42,false,.fadr 2,[.t 41]⟩,
 ⟨some (38,false),some 43,false,.ld 1 false,[.t 42]⟩,
 ⟨some (38,false),some 44,false,.len 0,[.t 43]⟩,
 ⟨some (38,false),some 45,false,.bin .gtr,[.t 44,.c (.int .i64 200)]⟩,
 ⟨none,some 46,false,.pick,[.t 38,.c (.bool true),.t 45]⟩])
 (.ite (.t 46)
 (.seq (.reg [
 ⟨none,some 2,true,.mv,[.c (.bool false)]⟩])
 .ret)
 .skip)))
 (.reg [
 ⟨none,some 11,false,.mv,[.t 3]⟩,
 ⟨none,some 12,false,.bin .add,[.t 11,.c (.int .i64 1)]⟩,
 ⟨none,some 3,true,.mv,[.t 12]⟩])))
def Mc.q59 : MC := (.seq (.reg [
 ⟨none,some 2,true,.mv,[.c (.bool false)]⟩])
 (.seq (.seq (.reg [
 ⟨none,some 4,false,.mv,[.t 0]⟩,
 ⟨none,some 5,false,.len 1,[.t 4]⟩,
 ⟨none,some 6,false,.bin .gtr,[.t 5,.c (.int .i64 4)]⟩])
 (.ite (.t 6)
 (.seq (.reg [
 ⟨none,some 2,true,.mv,[.c (.bool false)]⟩])
 .ret)
 .skip))
 (.seq (.seq (.reg [
 ⟨none,some 3,true,.mv,[.c (.int .i64 0)]⟩])
 (.blk 0 (.loop [] Mc.q59_L0)))
 (.seq (.reg [
 ⟨none,some 2,true,.mv,[.c (.bool true)]⟩])
 .ret))))
def Ks.q54 : List Nat := [0,1,4,5,12,13]
def Rs.q54 : List RV := [.tmp 4]
def Dl.q54 : List (List Nat) := [[5]]
def Mc.q54_L0 : MC := (.seq (.reg [
 ⟨none,some 14,false,.bin .lss,[.t 13,.t 12]⟩])
 (.seq (.ite (.t 14)
 .skip
 (.exit 0))
 (.seq (.blk 1 (.seq (.reg [
 ⟨none,some 15,false,.mv,[.t 13]⟩,
 ⟨none,some 5,true,.mv,[.t 15]⟩])
 (.seq (.rgd [
 ⟨none,some 16,false,.mv,[.t 0]⟩,
 ⟨none,some 17,false,.mv,[.t 5]⟩,
 ⟨none,some 18,false,.iadr 2,[.t 16,.t 17]⟩,
 ⟨none,some 19,false,.ld 2 true,[.t 18]⟩,
 ⟨none,some 20,false,.mv,[.t 1]⟩,
 ⟨none,some 21,false,.mv,[.t 5]⟩,
 ⟨none,some 22,false,.iadr 2,[.t 20,.t 21]⟩,
 ⟨none,some 23,false,.ld 2 true,[.t 22]⟩,
 ⟨none,some 24,false,.eqA true [.s,.s],[.t 19,.t 23]⟩])
 (.ite (.t 24)
 (.seq (.reg [
 ⟨none,some 4,true,.mv,[.c (.bool false)]⟩])
 .ret)
 .skip))))
 (.reg [
 ⟨none,some 25,false,.bin .add,[.t 13,.c (.int .i64 1)]⟩,
 ⟨none,some 13,true,.mv,[.t 25]⟩]))))
def Mc.q54 : MC := (.seq (.reg [
 ⟨none,some 4,true,.mv,[.c (.bool false)]⟩])
 (.seq (.seq (.reg [
 ⟨none,some 6,false,.mv,[.t 0]⟩,
 ⟨none,some 7,false,.len 1,[.t 6]⟩,
 ⟨none,some 8,false,.mv,[.t 1]⟩,
 ⟨none,some 9,false,.len 1,[.t 8]⟩,
 ⟨none,some 10,false,.bin .neq,[.t 7,.t 9]⟩])
 (.ite (.t 10)
 (.seq (.reg [
 ⟨none,some 4,true,.mv,[.c (.bool false)]⟩])
 .ret)
 .skip))
 (.seq (.seq (.reg [
 ⟨none,some 11,false,.mv,[.t 0]⟩,
 ⟨none,some 12,true,.len 1,[.t 11]⟩,
 ⟨none,some 13,true,.mv,[.c (.int .i64 0)]⟩])
 (.blk 0 (.loop [5] Mc.q54_L0)))
 (.seq (.reg [
 ⟨none,some 4,true,.mv,[.c (.bool true)]⟩])
 .ret))))
def Ks.q60 : List Nat := [0,1,2,6,7,9,14,15,16]
def Rs.q60 : List RV := [.tmp 6]
def Dl.q60 : List (List Nat) := [[9]]
def Mc.q60_L0 : MC := (.seq (.reg [
 ⟨none,some 17,false,.bin .lss,[.t 16,.t 15]⟩])
 (.seq (.ite (.t 17)
 .skip
 (.exit 0))
 (.seq (.blk 1 (.seq (.reg [
 ⟨none,some 18,false,.iadr 2,[.t 14,.t 16]⟩,
 ⟨none,some 19,false,.ld 2 true,[.t 18]⟩,
 ⟨none,some 9,true,.alloc [.str [],.str []],[]⟩,
 ⟨none,none,false,.st 2,[.t 9,.t 19]⟩])
 (.seq (.reg [
 ⟨none,some 20,false,.mv,[.t 7]⟩,
 ⟨none,some 21,false,.fadr 1,[.t 9]⟩,
 ⟨none,some 22,false,.ld 1 false,[.t 21]⟩,
 ⟨none,some 23,false,.len 0,[.t 22]⟩,
 ⟨none,some 24,false,.bin .add,[.t 20,.t 23]⟩,
 ⟨none,some 7,true,.mv,[.t 24]⟩])
 (.seq (.reg [
 ⟨none,some 25,false,.fadr 0,[.t 9]⟩,
 ⟨none,some 26,false,.ld 1 false,[.t 25]⟩,
 ⟨none,some 27,false,.len 0,[.t 26]⟩,
 ⟨none,some 28,false,.bin .gtr,[.t 27,.c (.int .i64 300)]⟩,
 ⟨none,some 29,false,.mv,[.t 28]⟩,
 ⟨some (29,false),some 30,false,.mv,[.t 7]⟩,
 ⟨some (29,false),some 31,false,.mv,[.t 2]⟩,
 ⟨some (29,false),some 32,false,.bin .gtr,[.t 30,.t 31]⟩,
 ⟨none,some 33,false,.pick,[.t 29,.c (.bool true),.t 32]⟩])
 (.ite (.t 33)
 (.seq (.reg [
 ⟨none,some 6,true,.mv,[.c (.bool false)]⟩])
 .ret)
 .skip)))))
 (.reg [
 ⟨none,some 34,false,.bin .add,[.t 16,.c (.int .i64 1)]⟩,
 ⟨none,some 16,true,.mv,[.t 34]⟩]))))
def Mc.q60 : MC := (.seq (.reg [
 ⟨none,some 6,true,.mv,[.c (.bool false)]⟩])
 (.seq (.seq (.reg [
 ⟨none,some 10,false,.mv,[.t 0]⟩,
 ⟨none,some 11,false,.len 1,[.t 10]⟩,
 ⟨none,some 12,false,.mv,[.t 1]⟩,
 ⟨none,some 13,false,.bin .gtr,[.t 11,.t 12]⟩])
 (.ite (.t 13)
 (.seq (.reg [
 ⟨none,some 6,true,.mv,[.c (.bool false)]⟩])
 .ret)
 .skip))
 (.seq (.reg [
 ⟨none,some 7,true,.mv,[.c (.int .i64 0)]⟩])
 (.seq (.seq (.reg [
 ⟨none,some 14,true,.mv,[.t 0]⟩,
 ⟨none,some 15,true,.len 1,[.t 14]⟩,
 ⟨none,some 16,true,.mv,[.c (.int .i64 0)]⟩])
 (.blk 0 (.loop [9] Mc.q60_L0)))
 (.seq (.reg [
 ⟨none,some 6,true,.mv,[.c (.bool true)]⟩])
 .ret)))))
def Ks.tree_Check : List Nat := [0,2,3,4,8,9,10]
def Rs.tree_Check : List RV := [.tmp 2]
def Dl.tree_Check : List (List Nat) := [[3,4]]
def Mc.tree_Check_L0 : MC := (.seq (.reg [
 ⟨none,some 11,false,.bin .lss,[.t 10,.t 9]⟩])
 (.seq (.ite (.t 11)
 .skip
 (.exit 0))
 (.seq (.blk 1 (.seq (.reg [
 ⟨none,some 12,false,.mv,[.t 10]⟩,
 ⟨none,some 13,false,.iadr 2,[.t 8,.t 10]⟩,
 ⟨none,some 14,false,.ld 2 true,[.t 13]⟩,
 ⟨none,some 4,true,.alloc [.str [],.str []],[]⟩,
 ⟨none,some 3,true,.mv,[.t 12]⟩,
 ⟨none,none,false,.st 2,[.t 4,.t 14]⟩])
 (.blk 2 (.seq (.reg [
 ⟨none,some 16,false,.fadr 0,[.t 4]⟩,
 ⟨none,some 17,false,.ld 1 false,[.t 16]⟩,
 ⟨none,some 18,false,.call Fn.tree_Path,[.t 17]⟩,
 ⟨none,some 19,false,.bin .neq,[.t 18,.c (.int .i64 0)]⟩,
 ⟨none,some 15,false,.mv,[.t 19]⟩])
 (.ite (.t 15)
 (.seq (.reg [
 ⟨none,some 2,true,.mv,[.c (.int .i64 2)]⟩])
 .ret)
 (.seq (.reg [
 ⟨none,some 21,false,.fadr 1,[.t 4]⟩,
 ⟨none,some 22,false,.ld 1 false,[.t 21]⟩,
 ⟨none,some 23,false,.len 0,[.t 22]⟩,
 ⟨none,some 24,false,.bin .gtr,[.t 23,.c (.int .i64 65536)]⟩,
 ⟨none,some 20,false,.mv,[.t 24]⟩])
 (.ite (.t 20)
 (.seq (.reg [
 ⟨none,some 2,true,.mv,[.c (.int .i64 10)]⟩])
 .ret)
 (.seq (.rgd [
 ⟨none,some 26,false,.mv,[.t 3]⟩,
 ⟨none,some 27,false,.bin .gtr,[.t 26,.c (.int .i64 0)]⟩,
 ⟨none,some 28,false,.mv,[.t 27]⟩,
 ⟨some (28,true),some 29,false,.mv,[.t 0]⟩,
 ⟨some (28,true),some 30,false,.mv,[.t 3]⟩,
 ⟨some (28,true),some 31,false,.bin .sub,[.t 30,.c (.int .i64 1)]⟩,
 ⟨some (28,true),some 32,false,.iadr 2,[.t 29,.t 31]⟩,
 ⟨some (28,true),some 33,false,.fadr 0,[.t 32]⟩,
 ⟨some (28,true),some 34,false,.ld 1 false,[.t 33]⟩,
 ⟨some (28,true),some 35,false,.fadr 0,[.t 4]⟩,
 ⟨some (28,true),some 36,false,.ld 1 false,[.t 35]⟩,
 ⟨some (28,true),some 37,false,.bin .geq,[.t 34,.t 36]⟩,
 ⟨none,some 38,false,.pick,[.t 28,.t 37,.c (.bool false)]⟩,
 ⟨none,some 25,false,.mv,[.t 38]⟩])
 (.ite (.t 25)
 (.seq (.reg [
 ⟨none,some 2,true,.mv,[.c (.int .i64 5)]⟩])
 .ret)
 (.seq (.reg [
 ⟨none,some 40,false,.mv,[.t 0]⟩,
 ⟨none,some 41,false,.mv,[.t 3]⟩,
 ⟨none,some 42,false,.slc (some 2) false true false,[.t 40,.t 41]⟩,
 ⟨none,some 43,false,.mkfn Fn.q73,[.t 4]⟩,
 ⟨none,some 44,false,.call Fn.q12,[.t 42,.t 43]⟩,
 ⟨none,some 39,false,.mv,[.t 44]⟩])
 (.ite (.t 39)
 (.seq (.reg [
 ⟨none,some 2,true,.mv,[.c (.int .i64 6)]⟩])
 .ret)
 .skip)))))))))))
 (.reg [
 ⟨none,some 45,false,.bin .add,[.t 10,.c (.int .i64 1)]⟩,
 ⟨none,some 10,true,.mv,[.t 45]⟩]))))
def Mc.tree_Check : MC := (.seq (.reg [
 ⟨none,some 2,true,.mv,[.c (.int .i64 0)]⟩])
 (.seq (.seq (.reg [
 ⟨none,some 5,false,.mv,[.t 0]⟩,
 ⟨none,some 6,false,.len 1,[.t 5]⟩,
 ⟨none,some 7,false,.bin .gtr,[.t 6,.c (.int .i64 64)]⟩])
 (.ite (.t 7)
 (.seq (.reg [
 ⟨none,some 2,true,.mv,[.c (.int .i64 10)]⟩])
 .ret)
 .skip))
 (.seq (.seq (.reg [
 ⟨none,some 8,true,.mv,[.t 0]⟩,
 ⟨none,some 9,true,.len 1,[.t 8]⟩,
 ⟨none,some 10,true,.mv,[.c (.int .i64 0)]⟩])
 (.blk 0 (.loop [3,4] Mc.tree_Check_L0)))
 (.seq (.reg [
 ⟨none,some 2,true,.mv,[.c (.int .i64 0)]⟩])
 .ret))))
def Ks.q45 : List Nat := [0,2,3,4,5,9,10,11]
def Rs.q45 : List RV := [.tmp 2]
def Dl.q45 : List (List Nat) := [[3,4,5],[]]
def Mc.q45_L1 : MC := (.seq (.seq (.reg [
 ⟨none,some 37,false,.mv,[.t 5]⟩,
 ⟨none,some 38,false,.mv,[.t 3]⟩,
 ⟨none,some 39,false,.bin .lss,[.t 37,.t 38]⟩])
 (.ite (.t 39)
 .skip
 (.exit 2)))
 (.seq (.blk 3 (.seq (.rgd [
 ⟨none,some 42,false,.fadr 0,[.t 4]⟩,
 ⟨none,some 43,false,.ld 1 false,[.t 42]⟩,
 ⟨none,some 44,false,.mv,[.t 0]⟩,
 ⟨none,some 45,false,.mv,[.t 5]⟩,
 ⟨none,some 46,false,.iadr 2,[.t 44,.t 45]⟩,
 ⟨none,some 47,false,.fadr 0,[.t 46]⟩,
 ⟨none,some 48,false,.ld 1 false,[.t 47]⟩,
 ⟨none,some 49,false,.call Fn.q47,[.t 43,.t 48]⟩])
 (.ite (.t 49)
 (.seq (.reg [
 ⟨none,some 2,true,.mv,[.c (.int .i64 6)]⟩])
 .ret)
 .skip)))
 (.reg [
 ⟨none,some 40,false,.mv,[.t 5]⟩,
 ⟨none,some 41,false,.bin .add,[.t 40,.c (.int .i64 1)]⟩,
 ⟨none,some 5,true,.mv,[.t 41]⟩])))
def Mc.q45_L0 : MC := (.seq (.reg [
 ⟨none,some 12,false,.bin .lss,[.t 11,.t 10]⟩])
 (.seq (.ite (.t 12)
 .skip
 (.exit 0))
 (.seq (.blk 1 (.seq (.reg [
 ⟨none,some 13,false,.mv,[.t 11]⟩,
 ⟨none,some 14,false,.iadr 2,[.t 9,.t 11]⟩,
 ⟨none,some 15,false,.ld 2 true,[.t 14]⟩,
 ⟨none,some 4,true,.alloc [.str [],.str []],[]⟩,
 ⟨none,some 3,true,.mv,[.t 13]⟩,
 ⟨none,none,false,.st 2,[.t 4,.t 15]⟩])
 (.seq (.seq (.reg [
 ⟨none,some 16,false,.fadr 0,[.t 4]⟩,
 ⟨none,some 17,false,.ld 1 false,[.t 16]⟩,
 ⟨none,some 18,false,.call Fn.q55,[.t 17]⟩,
 ⟨none,some 19,false,.bin .neq,[.t 18,.c (.int .i64 0)]⟩])
 (.ite (.t 19)
 (.seq (.reg [
 ⟨none,some 2,true,.mv,[.c (.int .i64 2)]⟩])
 .ret)
 .skip))
 (.seq (.seq (.reg [
 ⟨none,some 20,false,.fadr 1,[.t 4]⟩,
 ⟨none,some 21,false,.ld 1 false,[.t 20]⟩,
 ⟨none,some 22,false,.len 0,[.t 21]⟩,
 ⟨none,some 23,false,.bin .gtr,[.t 22,.c (.int .i64 65536)]⟩])
 (.ite (.t 23)
 (.seq (.reg [
 ⟨none,some 2,true,.mv,[.c (.int .i64 10)]⟩])
 .ret)
 .skip))
 (.seq (.seq (.rgd [
 ⟨none,some 24,false,.mv,[.t 3]⟩,
 ⟨none,some 25,false,.bin .gtr,[.t 24,.c (.int .i64 0)]⟩,
 ⟨none,some 26,false,.mv,[.t 25]⟩,
 ⟨some (26,true),some 27,false,.fadr 0,[.t 4]⟩,
 ⟨some (26,true),some 28,false,.ld 1 false,[.t 27]⟩,
 ⟨some (26,true),some 29,false,.mv,[.t 0]⟩,
 ⟨some (26,true),some 30,false,.mv,[.t 3]⟩,
 ⟨some (26,true),some 31,false,.bin .sub,[.t 30,.c (.int .i64 1)]⟩,
 ⟨some (26,true),some 32,false,.iadr 2,[.t 29,.t 31]⟩,
 ⟨some (26,true),some 33,false,.fadr 0,[.t 32]⟩,
 ⟨some (26,true),some 34,false,.ld 1 false,[.t 33]⟩,
 ⟨some (26,true),some 35,false,.bin .leq,[.t 28,.t 34]⟩,
 ⟨none,some 36,false,.pick,[.t 26,.t 35,.c (.bool false)]⟩])
 (.ite (.t 36)
 (.seq (.reg [
 ⟨none,some 2,true,.mv,[.c (.int .i64 5)]⟩])
 .ret)
 .skip))
 (.seq (.reg [
 ⟨none,some 5,true,.mv,[.c (.int .i64 0)]⟩])
 (.blk 2 (.loop [] Mc.q45_L1))))))))
 (.reg [
 ⟨none,some 50,false,.bin .add,[.t 11,.c (.int .i64 1)]⟩,
 ⟨none,some 11,true,.mv,[.t 50]⟩]))))
def Mc.q45 : MC := (.seq (.reg [
 ⟨none,some 2,true,.mv,[.c (.int .i64 0)]⟩])
 (.seq (.seq (.reg [
 ⟨none,some 6,false,.mv,[.t 0]⟩,
 ⟨none,some 7,false,.len 1,[.t 6]⟩,
 ⟨none,some 8,false,.bin .gtr,[.t 7,.c (.int .i64 64)]⟩])
 (.ite (.t 8)
 (.seq (.reg [
 ⟨none,some 2,true,.mv,[.c (.int .i64 10)]⟩])
 .ret)
 .skip))
 (.seq (.seq (.reg [
 ⟨none,some 9,true,.mv,[.t 0]⟩,
 ⟨none,some 10,true,.len 1,[.t 9]⟩,
 ⟨none,some 11,true,.mv,[.c (.int .i64 0)]⟩])
 (.blk 0 (.loop [3,4,5] Mc.q45_L0)))
 (.seq (.reg [
 ⟨none,some 2,true,.mv,[.c (.int .i64 0)]⟩])
 .ret))))
def Ks.bundle_rows : List Nat := [0,2,3,4,5,6,7,8]
def Rs.bundle_rows : List RV := [.tmp 2,.tmp 3]
def Dl.bundle_rows : List (List Nat) := [[5,6,7,8]]
def Mc.bundle_rows_L0 : MC := (.seq (.seq (.reg [
 ⟨none,some 9,false,.mv,[.t 0]⟩,
 ⟨none,some 10,false,.bin .neq,[.t 9,.c (.str [])]⟩])
 (.ite (.t 10)
 .skip
 (.exit 0)))
 (.blk 1 (.seq (.reg [
 ⟨none,some 12,false,.mv,[.t 0]⟩,
 ⟨none,some 13,false,.call Fn.strings_Cut,[.t 12,.c (.str [10])]⟩,
 ⟨none,some 11,false,.mv,[.t 13]⟩,
 ⟨none,some 14,false,.ext 0,[.t 11]⟩,
 ⟨none,some 15,false,.ext 1,[.t 11]⟩,
 ⟨none,some 16,false,.ext 2,[.t 11]⟩,
 ⟨none,some 5,true,.mv,[.t 14]⟩,
 ⟨none,some 6,true,.mv,[.t 15]⟩,
 ⟨none,some 7,true,.mv,[.t 16]⟩])
 (.seq (.reg [
 ⟨none,some 17,false,.mv,[.t 5]⟩,
 ⟨none,some 18,false,.call Fn.q67,[.t 17,.c (.str [32])]⟩,
 ⟨none,some 8,true,.mv,[.t 18]⟩])
 (.seq (.seq (.reg [
 ⟨none,some 19,false,.mv,[.t 7]⟩,
 ⟨none,some 20,false,.un .not,[.t 19]⟩,
 ⟨none,some 21,false,.mv,[.t 20]⟩,
 ⟨some (21,false),some 22,false,.mv,[.t 8]⟩,
 ⟨some (21,false),some 23,false,.call Fn.q18,[.t 22,.c (.str [])]⟩,
 ⟨none,some 24,false,.pick,[.t 21,.c (.bool true),.t 23]⟩])
 (.ite (.t 24)
 (.seq (.reg [
 ⟨none,some 2,true,.newnil 1,[]⟩,
 ⟨none,some 3,true,.mv,[.c (.bool false)]⟩])
 .ret)
 .skip))
 (.seq (.reg [
 ⟨none,some 25,false,.mv,[.t 4]⟩,
 ⟨none,some 26,false,.mv,[.t 8]⟩,
 ⟨none,some 27,false,.bsl false 1,[.t 26]⟩,
 ⟨none,some 28,false,.app false 1 24,[.t 25,.t 27]⟩,
 ⟨none,some 4,true,.mv,[.t 28]⟩])
 (.reg [
 ⟨none,some 29,false,.mv,[.t 6]⟩,
 ⟨none,some 0,true,.mv,[.t 29]⟩])))))))
def Mc.bundle_rows : MC := (.seq (.reg [
 ⟨none,some 2,true,.newnil 1,[]⟩,
 ⟨none,some 3,true,.mv,[.c (.bool false)]⟩])
 (.seq (.reg [
 ⟨none,some 4,true,.newnil 1,[]⟩])
 (.seq (.blk 0 (.loop [5,6,7,8] Mc.bundle_rows_L0))
 (.seq (.reg [
 ⟨none,some 30,false,.mv,[.t 4]⟩,
 ⟨none,some 2,true,.mv,[.t 30]⟩,
 ⟨none,some 3,true,.mv,[.c (.bool true)]⟩])
 .ret))))
def Ks.tree_Path : List Nat := [0,2,3]
def Rs.tree_Path : List RV := [.tmp 2]
def Dl.tree_Path : List (List Nat) := []
def Mc.tree_Path : MC := (.seq (.reg [
 ⟨none,some 2,true,.mv,[.c (.int .i64 0)]⟩])
 (.seq (.reg [
 ⟨none,some 4,false,.mv,[.t 0]⟩,
 ⟨none,some 5,false,.call Fn.q67,[.t 4,.c (.str [47])]⟩,
 ⟨none,some 3,true,.mv,[.t 5]⟩])
 (.seq (.seq (.reg [
 ⟨none,some 6,false,.mv,[.t 0]⟩,
 ⟨none,some 7,false,.len 0,[.t 6]⟩,
 ⟨none,some 8,false,.bin .gtr,[.t 7,.c (.int .i64 128)]⟩,
 ⟨none,some 9,false,.mv,[.t 8]⟩,
 ⟨some (9,false),some 10,false,.mv,[.t 3]⟩,
 ⟨some (9,false),some 11,false,.len 1,[.t 10]⟩,
 ⟨some (9,false),some 12,false,.bin .gtr,[.t 11,.c (.int .i64 8)]⟩,
 ⟨none,some 13,false,.pick,[.t 9,.c (.bool true),.t 12]⟩,
 ⟨none,some 14,false,.mv,[.t 13]⟩,
 ⟨some (14,false),some 15,false,.mv,[.t 3]⟩,
 ⟨some (14,false),some 16,false,.call Fn.q14,[.t 15,.c (.fn Fn.tree_Path_1 [])]⟩,
 ⟨none,some 17,false,.pick,[.t 14,.c (.bool true),.t 16]⟩])
 (.ite (.t 17)
 (.seq (.reg [
 ⟨none,some 2,true,.mv,[.c (.int .i64 2)]⟩])
 .ret)
 .skip))
 (.seq (.reg [
 ⟨none,some 2,true,.mv,[.c (.int .i64 0)]⟩])
 .ret))))
def Ks.q55 : List Nat := [0,2,3,5,14,15,16]
def Rs.q55 : List RV := [.tmp 2]
def Dl.q55 : List (List Nat) := [[5]]
def Mc.q55_L0 : MC := (.seq (.reg [
 ⟨none,some 17,false,.bin .lss,[.t 16,.t 15]⟩])
 (.seq (.ite (.t 17)
 .skip
 (.exit 0))
 (.seq (.blk 1 (.seq (.reg [
 ⟨none,some 18,false,.iadr 1,[.t 14,.t 16]⟩,
 ⟨none,some 19,false,.ld 1 false,[.t 18]⟩,
 ⟨none,some 5,true,.mv,[.t 19]⟩])
 (.seq (.reg [
 ⟨none,some 20,false,.mv,[.t 5]⟩,
 ⟨none,some 21,false,.call Fn.q57,[.t 20]⟩,
 ⟨none,some 22,false,.un .not,[.t 21]⟩])
 (.ite (.t 22)
 (.seq (.reg [
 ⟨none,some 2,true,.mv,[.c (.int .i64 2)]⟩])
 .ret)
 .skip))))
 (.reg [
 ⟨none,some 23,false,.bin .add,[.t 16,.c (.int .i64 1)]⟩,
 ⟨none,some 16,true,.mv,[.t 23]⟩]))))
def Mc.q55 : MC := (.seq (.reg [
 ⟨none,some 2,true,.mv,[.c (.int .i64 0)]⟩])
 (.seq (.seq (.reg [
 ⟨none,some 6,false,.mv,[.t 0]⟩,
 ⟨none,some 7,false,.len 0,[.t 6]⟩,
 ⟨none,some 8,false,.bin .gtr,[.t 7,.c (.int .i64 128)]⟩])
 (.ite (.t 8)
 (.seq (.reg [
 ⟨none,some 2,true,.mv,[.c (.int .i64 2)]⟩])
 .ret)
 .skip))
 (.seq (.reg [
 ⟨none,some 9,false,.mv,[.t 0]⟩,
 ⟨none,some 10,false,.call Fn.q48,[.t 9,.c (.int .u8 47)]⟩,
 ⟨none,some 3,true,.mv,[.t 10]⟩])
 (.seq (.seq (.reg [
 ⟨none,some 11,false,.mv,[.t 3]⟩,
 ⟨none,some 12,false,.len 1,[.t 11]⟩,
 ⟨none,some 13,false,.bin .gtr,[.t 12,.c (.int .i64 8)]⟩])
 (.ite (.t 13)
 (.seq (.reg [
 ⟨none,some 2,true,.mv,[.c (.int .i64 2)]⟩])
 .ret)
 .skip))
 (.seq (.seq (.reg [
 ⟨none,some 14,true,.mv,[.t 3]⟩,
 ⟨none,some 15,true,.len 1,[.t 14]⟩,
 ⟨none,some 16,true,.mv,[.c (.int .i64 0)]⟩])
 (.blk 0 (.loop [5] Mc.q55_L0)))
 (.seq (.reg [
 ⟨none,some 2,true,.mv,[.c (.int .i64 0)]⟩])
 .ret))))))
def Ks.q12 : List Nat := [0,1,4]
def Rs.q12 : List RV := [.tmp 4]
def Dl.q12 : List (List Nat) := []
def Mc.q12 : MC := (.seq (.reg [
 ⟨none,some 4,true,.mv,[.c (.bool false)]⟩])
 (.seq (.reg [
 ⟨none,some 5,false,.mv,[.t 0]⟩,
 ⟨none,some 6,false,.mv,[.t 1]⟩,
 ⟨none,some 7,false,.call Fn.q15,[.t 5,.t 6]⟩,
 ⟨none,some 8,false,.bin .geq,[.t 7,.c (.int .i64 0)]⟩,
 ⟨none,some 4,true,.mv,[.t 8]⟩])
 .ret))
def Ks.q73 : List Nat := [0,1,2,3]
def Rs.q73 : List RV := [.tmp 3]
def Dl.q73 : List (List Nat) := []
def Mc.q73 : MC := (.seq (.reg [
 ⟨none,some 2,true,.box,[.t 0]⟩,
 ⟨none,some 3,true,.mv,[.c (.bool false)]⟩])
 (.seq (.reg [
 ⟨none,some 4,false,.fadr 0,[.t 1]⟩,
 ⟨none,some 5,false,.ld 1 false,[.t 4]⟩,
 ⟨none,some 6,false,.fadr 0,[.t 2]⟩,
 ⟨none,some 7,false,.ld 1 false,[.t 6]⟩,
 ⟨none,some 8,false,.call Fn.tree_below,[.t 5,.t 7]⟩,
 ⟨none,some 3,true,.mv,[.t 8]⟩])
 .ret))
def Ks.tree_below : List Nat := [0,1,4]
def Rs.tree_below : List RV := [.tmp 4]
def Dl.tree_below : List (List Nat) := []
def Mc.tree_below : MC := (.seq (.reg [
 ⟨none,some 4,true,.mv,[.c (.bool false)]⟩])
 (.seq (.reg [
 ⟨none,some 5,false,.mv,[.t 0]⟩,
 ⟨none,some 6,false,.mv,[.t 1]⟩,
 ⟨none,some 7,false,.bin .add,[.t 6,.c (.str [47])]⟩,
 ⟨none,some 8,false,.call Fn.q40,[.t 5,.t 7]⟩,
 ⟨none,some 4,true,.mv,[.t 8]⟩])
 .ret))
def Ks.q47 : List Nat := [0,1,4]
def Rs.q47 : List RV := [.tmp 4]
def Dl.q47 : List (List Nat) := []
def Mc.q47 : MC := (.seq (.reg [
 ⟨none,some 4,true,.mv,[.c (.bool false)]⟩])
 (.seq (.reg [
 ⟨none,some 5,false,.mv,[.t 0]⟩,
 ⟨none,some 6,false,.len 0,[.t 5]⟩,
 ⟨none,some 7,false,.mv,[.t 1]⟩,
 ⟨none,some 8,false,.len 0,[.t 7]⟩,
 ⟨none,some 9,false,.bin .gtr,[.t 6,.t 8]⟩,
 ⟨none,some 10,false,.mv,[.t 9]⟩,
 ⟨some (10,true),some 11,false,.mv,[.t 0]⟩,
 ⟨some (10,true),some 12,false,.mv,[.t 1]⟩,
 ⟨some (10,true),some 13,false,.len 0,[.t 12]⟩,
 ⟨some (10,true),some 14,false,.slc none false true false,[.t 11,.t 13]⟩,
 ⟨some (10,true),some 15,false,.mv,[.t 1]⟩,
 ⟨some (10,true),some 16,false,.bin .eql,[.t 14,.t 15]⟩,
 ⟨none,some 17,false,.pick,[.t 10,.t 16,.c (.bool false)]⟩,
 ⟨none,some 18,false,.mv,[.t 17]⟩,
 ⟨some (18,true),some 19,false,.mv,[.t 0]⟩,
 ⟨some (18,true),some 20,false,.mv,[.t 1]⟩,
 ⟨some (18,true),some 21,false,.len 0,[.t 20]⟩,
 ⟨some (18,true),some 22,false,.istr,[.t 19,.t 21]⟩,
 ⟨some (18,true),some 23,false,.bin .eql,[.t 22,.c (.int .u8 47)]⟩,
 ⟨none,some 24,false,.pick,[.t 18,.t 23,.c (.bool false)]⟩,
 ⟨none,some 4,true,.mv,[.t 24]⟩])
 .ret))
def Ks.q70 : List Nat := [0,2]
def Rs.q70 : List RV := [.tmp 2]
def Dl.q70 : List (List Nat) := []
def Mc.q70 : MC := (.seq (.reg [
 ⟨none,some 2,true,.mv,[.c (.str [])]⟩])
 (.seq (.reg [
 ⟨none,some 3,false,.mv,[.t 0]⟩,
 ⟨none,some 4,false,.call Fn.q23,[.t 3]⟩,
 ⟨none,some 2,true,.mv,[.t 4]⟩])
 .ret))
def Ks.q57 : List Nat := [0,2,3,4]
def Rs.q57 : List RV := [.tmp 2]
def Dl.q57 : List (List Nat) := [[4]]
def Mc.q57_L0 : MC := (.seq (.seq (.reg [
 ⟨none,some 23,false,.mv,[.t 3]⟩,
 ⟨none,some 24,false,.mv,[.t 0]⟩,
 ⟨none,some 25,false,.len 0,[.t 24]⟩,
 ⟨none,some 26,false,.bin .lss,[.t 23,.t 25]⟩])
 (.ite (.t 26)
 .skip
 (.exit 0)))
 (.seq (.blk 1 (.seq (.reg [
 ⟨none,some 29,false,.mv,[.t 0]⟩,
 ⟨none,some 30,false,.mv,[.t 3]⟩,
 ⟨none,some 31,false,.istr,[.t 29,.t 30]⟩,
 ⟨none,some 4,true,.mv,[.t 31]⟩])
 (.seq (.reg [
 ⟨none,some 32,false,.mv,[.t 4]⟩,
 ⟨none,some 33,false,.bin .lss,[.t 32,.c (.int .u8 97)]⟩,
 ⟨none,some 34,false,.mv,[.t 33]⟩,
 ⟨some (34,false),some 35,false,.mv,[.t 4]⟩,
 ⟨some (34,false),some 36,false,.bin .gtr,[.t 35,.c (.int .u8 122)]⟩,
 ⟨none,some 37,false,.pick,[.t 34,.c (.bool true),.t 36]⟩,
 ⟨none,some 38,false,.mv,[.t 37]⟩,
 ⟨some (38,true),some 39,false,.mv,[.t 4]⟩,
 ⟨some (38,true),some 40,false,.bin .lss,[.t 39,.c (.int .u8 48)]⟩,
 ⟨some (38,true),some 41,false,.mv,[.t 40]⟩,
 ⟨some (41,false),some 42,false,.mv,[.t 4]⟩,
 ⟨some (41,false),some 43,false,.bin .gtr,[.t 42,.c (.int .u8 57)]⟩,
 ⟨some (38,true),some 44,false,.pick,[.t 41,.c (.bool true),.t 43]⟩,
 ⟨none,some 45,false,.pick,[.t 38,.t 44,.c (.bool false)]⟩,
 ⟨none,some 46,false,.mv,[.t 45]⟩,
 ⟨some (46,true),some 47,false,.mv,[.t 4]⟩,
 ⟨some (46,true),some 48,false,.bin .neq,[.t 47,.c (.int .u8 46)]⟩,
 ⟨none,some 49,false,.pick,[.t 46,.t 48,.c (.bool false)]⟩,
 ⟨none,some 50,false,.mv,[.t 49]⟩,
 ⟨some (50,true),some 51,false,.mv,[.t 4]⟩,
 ⟨some (50,true),some 52,false,.bin .neq,[.t 51,.c (.int .u8 95)]⟩,
 ⟨none,some 53,false,.pick,[.t 50,.t 52,.c (.bool false)]⟩,
 ⟨none,some 54,false,.mv,[.t 53]⟩,
 ⟨some (54,true),some 55,false,.mv,[.t 4]⟩,
 ⟨some (54,true),some 56,false,.bin .neq,[.t 55,.c (.int .u8 45)]⟩,
 ⟨none,some 57,false,.pick,[.t 54,.t 56,.c (.bool false)]⟩])
 (.ite (.t 57)
 (.seq (.reg [
 ⟨none,some 2,true,.mv,[.c (.bool false)]⟩])
 .ret)
 .skip))))
 (.reg [
 ⟨none,some 27,false,.mv,[.t 3]⟩,
 ⟨none,some 28,false,.bin .add,[.t 27,.c (.int .i64 1)]⟩,
 ⟨none,some 3,true,.mv,[.t 28]⟩])))
def Mc.q57 : MC := (.seq (.reg [
 ⟨none,some 2,true,.mv,[.c (.bool false)]⟩])
 (.seq (.seq (.reg [
 ⟨none,some 5,false,.mv,[.t 0]⟩,
 ⟨none,some 6,false,.len 0,[.t 5]⟩,
 ⟨none,some 7,false,.bin .lss,[.t 6,.c (.int .i64 1)]⟩,
 ⟨none,some 8,false,.mv,[.t 7]⟩,
 ⟨some (8,false),some 9,false,.mv,[.t 0]⟩,
 ⟨some (8,false),some 10,false,.len 0,[.t 9]⟩,
 ⟨some (8,false),some 11,false,.bin .gtr,[.t 10,.c (.int .i64 32)]⟩,
 ⟨none,some 12,false,.pick,[.t 8,.c (.bool true),.t 11]⟩,
 ⟨none,some 13,false,.mv,[.t 12]⟩,
 ⟨some (13,false),some 14,false,.mv,[.t 0]⟩,
 ⟨some (13,false),some 15,false,.istr,[.t 14,.c (.int .i64 0)]⟩,
 ⟨some (13,false),some 16,false,.bin .eql,[.t 15,.c (.int .u8 46)]⟩,
 ⟨none,some 17,false,.pick,[.t 13,.c (.bool true),.t 16]⟩,
 ⟨none,some 18,false,.mv,[.t 17]⟩,
 ⟨some (18,false),some 19,false,.mv,[.t 0]⟩,
 ⟨some (18,false),some 20,false,.istr,[.t 19,.c (.int .i64 0)]⟩,
 ⟨some (18,false),some 21,false,.bin .eql,[.t 20,.c (.int .u8 45)]⟩,
 ⟨none,some 22,false,.pick,[.t 18,.c (.bool true),.t 21]⟩])
 (.ite (.t 22)
 (.seq (.reg [
 ⟨none,some 2,true,.mv,[.c (.bool false)]⟩])
 .ret)
 .skip))
 (.seq (.seq (.reg [
 ⟨none,some 3,true,.mv,[.c (.int .i64 0)]⟩])
 (.blk 0 (.loop [4] Mc.q57_L0)))
 (.seq (.reg [
 ⟨none,some 2,true,.mv,[.c (.bool true)]⟩])
 .ret))))
def Ks.q18 : List Nat := [0,1,4]
def Rs.q18 : List RV := [.tmp 4]
def Dl.q18 : List (List Nat) := []
def Mc.q18 : MC := (.seq (.reg [
 ⟨none,some 4,true,.mv,[.c (.bool false)]⟩])
 (.seq (.reg [
 ⟨none,some 5,false,.mv,[.t 0]⟩,
 ⟨none,some 6,false,.mv,[.t 1]⟩,
 ⟨none,some 7,false,.call Fn.q21,[.t 5,.t 6]⟩,
 ⟨none,some 8,false,.bin .geq,[.t 7,.c (.int .i64 0)]⟩,
 ⟨none,some 4,true,.mv,[.t 8]⟩])
 .ret))
def Ks.q14 : List Nat := [0,1,4]
def Rs.q14 : List RV := [.tmp 4]
def Dl.q14 : List (List Nat) := []
def Mc.q14 : MC := (.seq (.reg [
 ⟨none,some 4,true,.mv,[.c (.bool false)]⟩])
 (.seq (.reg [
 ⟨none,some 5,false,.mv,[.t 0]⟩,
 ⟨none,some 6,false,.mv,[.t 1]⟩,
 ⟨none,some 7,false,.call Fn.q17,[.t 5,.t 6]⟩,
 ⟨none,some 8,false,.bin .geq,[.t 7,.c (.int .i64 0)]⟩,
 ⟨none,some 4,true,.mv,[.t 8]⟩])
 .ret))
def Ks.tree_Path_1 : List Nat := [0,2]
def Rs.tree_Path_1 : List RV := [.tmp 2]
def Dl.tree_Path_1 : List (List Nat) := []
def Mc.tree_Path_1 : MC := (.seq (.reg [
 ⟨none,some 2,true,.mv,[.c (.bool false)]⟩])
 (.seq (.reg [
 ⟨none,some 3,false,.mv,[.t 0]⟩,
 ⟨none,some 4,false,.call Fn.tree_part,[.t 3]⟩,
 ⟨none,some 5,false,.un .not,[.t 4]⟩,
 ⟨none,some 2,true,.mv,[.t 5]⟩])
 .ret))
def Ks.tree_part : List Nat := [0,2]
def Rs.tree_part : List RV := [.tmp 2]
def Dl.tree_part : List (List Nat) := []
def Mc.tree_part : MC := (.seq (.reg [
 ⟨none,some 2,true,.mv,[.c (.bool false)]⟩])
 (.seq (.seq (.reg [
 ⟨none,some 3,false,.mv,[.t 0]⟩,
 ⟨none,some 4,false,.bin .eql,[.t 3,.c (.str [])]⟩,
 ⟨none,some 5,false,.mv,[.t 4]⟩,
 ⟨some (5,false),some 6,false,.mv,[.t 0]⟩,
 ⟨some (5,false),some 7,false,.len 0,[.t 6]⟩,
 ⟨some (5,false),some 8,false,.bin .gtr,[.t 7,.c (.int .i64 32)]⟩,
 ⟨none,some 9,false,.pick,[.t 5,.c (.bool true),.t 8]⟩,
 ⟨none,some 10,false,.mv,[.t 9]⟩,
 ⟨some (10,false),some 11,false,.mv,[.t 0]⟩,
 ⟨some (10,false),some 12,false,.istr,[.t 11,.c (.int .i64 0)]⟩,
 ⟨some (10,false),some 13,false,.bin .eql,[.t 12,.c (.int .u8 46)]⟩,
 ⟨none,some 14,false,.pick,[.t 10,.c (.bool true),.t 13]⟩,
 ⟨none,some 15,false,.mv,[.t 14]⟩,
 ⟨some (15,false),some 16,false,.mv,[.t 0]⟩,
 ⟨some (15,false),some 17,false,.istr,[.t 16,.c (.int .i64 0)]⟩,
 ⟨some (15,false),some 18,false,.bin .eql,[.t 17,.c (.int .u8 45)]⟩,
 ⟨none,some 19,false,.pick,[.t 15,.c (.bool true),.t 18]⟩])
 (.ite (.t 19)
 (.seq (.reg [
 ⟨none,some 2,true,.mv,[.c (.bool false)]⟩])
 .ret)
 .skip))
 (.seq (.reg [
 ⟨none,some 20,false,.mv,[.t 0]⟩,
 ⟨none,some 21,false,.call Fn.q34,[.t 20,.c (.fn Fn.tree_part_1 [])]⟩,
 ⟨none,some 22,false,.un .not,[.t 21]⟩,
 ⟨none,some 2,true,.mv,[.t 22]⟩])
 .ret)))
def Ks.q48 : List Nat := [0,1,4,5,6,7]
def Rs.q48 : List RV := [.tmp 4]
def Dl.q48 : List (List Nat) := [[]]
def Mc.q48_L0 : MC := (.seq (.seq (.reg [
 ⟨none,some 8,false,.mv,[.t 7]⟩,
 ⟨none,some 9,false,.mv,[.t 0]⟩,
 ⟨none,some 10,false,.len 0,[.t 9]⟩,
 ⟨none,some 11,false,.bin .lss,[.t 8,.t 10]⟩])
 (.ite (.t 11)
 .skip
 (.exit 0)))
 (.seq (.blk 1 (.seq (.reg [
 ⟨none,some 14,false,.mv,[.t 0]⟩,
 ⟨none,some 15,false,.mv,[.t 7]⟩,
 ⟨none,some 16,false,.istr,[.t 14,.t 15]⟩,
 ⟨none,some 17,false,.mv,[.t 1]⟩,
 ⟨none,some 18,false,.bin .eql,[.t 16,.t 17]⟩])
 (.ite (.t 18)
 (.seq (.reg [
 ⟨none,some 19,false,.mv,[.t 5]⟩,
 ⟨none,some 20,false,.mv,[.t 0]⟩,
 ⟨none,some 21,false,.mv,[.t 6]⟩,
 ⟨none,some 22,false,.mv,[.t 7]⟩,
 ⟨none,some 23,false,.slc none true true false,[.t 20,.t 21,.t 22]⟩,
 ⟨none,some 24,false,.bsl false 1,[.t 23]⟩,
 ⟨none,some 25,false,.app false 1 16,[.t 19,.t 24]⟩,
 ⟨none,some 5,true,.mv,[.t 25]⟩])
 (.reg [
 ⟨none,some 26,false,.mv,[.t 7]⟩,
 ⟨none,some 27,false,.bin .add,[.t 26,.c (.int .i64 1)]⟩,
 ⟨none,some 6,true,.mv,[.t 27]⟩]))
 .skip)))
 (.reg [
 ⟨none,some 12,false,.mv,[.t 7]⟩,
 ⟨none,some 13,false,.bin .add,[.t 12,.c (.int .i64 1)]⟩,
 ⟨none,some 7,true,.mv,[.t 13]⟩])))
def Mc.q48 : MC := (.seq (.reg [
 ⟨none,some 4,true,.newnil 1,[]⟩])
 (.seq (.reg [
 ⟨none,some 5,true,.newnil 1,[]⟩])
 (.seq (.reg [
 ⟨none,some 6,true,.mv,[.c (.int .i64 0)]⟩])
 (.seq (.seq (.reg [
 ⟨none,some 7,true,.mv,[.c (.int .i64 0)]⟩])
 (.blk 0 (.loop [] Mc.q48_L0)))
 (.seq (.reg [
 ⟨none,some 28,false,.mv,[.t 5]⟩,
 ⟨none,some 29,false,.mv,[.t 0]⟩,
 ⟨none,some 30,false,.mv,[.t 6]⟩,
 ⟨none,some 31,false,.slc none true false false,[.t 29,.t 30]⟩,
 ⟨none,some 32,false,.bsl false 1,[.t 31]⟩,
 ⟨none,some 33,false,.app false 1 16,[.t 28,.t 32]⟩,
 ⟨none,some 4,true,.mv,[.t 33]⟩])
 .ret)))))
def Ks.q15 : List Nat := [0,1,4,5,7,8]
def Rs.q15 : List RV := [.tmp 4]
def Dl.q15 : List (List Nat) := [[5]]
def Mc.q15_L0 : MC := (.seq (.reg [
 ⟨none,some 9,false,.bin .lss,[.t 8,.t 7]⟩])
 (.seq (.ite (.t 9)
 .skip
 (.exit 0))
 (.seq (.blk 1 (.seq (.reg [
 ⟨none,some 10,false,.mv,[.t 8]⟩,
 ⟨none,some 5,true,.mv,[.t 10]⟩])
 (.seq (.reg [
 ⟨none,some 11,false,.mv,[.t 1]⟩,
 ⟨none,some 12,false,.mv,[.t 0]⟩,
 ⟨none,some 13,false,.mv,[.t 5]⟩,
 ⟨none,some 14,false,.iadr 2,[.t 12,.t 13]⟩,
 ⟨none,some 15,false,.ld 2 true,[.t 14]⟩,
 ⟨none,some 16,false,.callv,[.t 11,.t 15]⟩])
 (.ite (.t 16)
 (.seq (.reg [
 ⟨none,some 17,false,.mv,[.t 5]⟩,
 ⟨none,some 4,true,.mv,[.t 17]⟩])
 .ret)
 .skip))))
 (.reg [
 ⟨none,some 18,false,.bin .add,[.t 8,.c (.int .i64 1)]⟩,
 ⟨none,some 8,true,.mv,[.t 18]⟩]))))
def Mc.q15 : MC := (.seq (.reg [
 ⟨none,some 4,true,.mv,[.c (.int .i64 0)]⟩])
 (.seq (.seq (.reg [
 ⟨none,some 6,false,.mv,[.t 0]⟩,
 ⟨none,some 7,true,.len 1,[.t 6]⟩,
 ⟨none,some 8,true,.mv,[.c (.int .i64 0)]⟩])
 (.blk 0 (.loop [5] Mc.q15_L0)))
 (.seq (.reg [
 ⟨none,some 4,true,.mv,[.c (.int .i64 (-1))]⟩])
 .ret)))
def Ks.q40 : List Nat := [0,1,4]
def Rs.q40 : List RV := [.tmp 4]
def Dl.q40 : List (List Nat) := []
def Mc.q40 : MC := (.seq (.reg [
 ⟨none,some 4,true,.mv,[.c (.bool false)]⟩])
 (.seq (.reg [
 ⟨none,some 5,false,.mv,[.t 0]⟩,
 ⟨none,some 6,false,.mv,[.t 1]⟩,
 ⟨none,some 7,false,.call Fn.q20,[.t 5,.t 6]⟩,
 ⟨none,some 4,true,.mv,[.t 7]⟩])
 .ret))
def Ks.q21 : List Nat := [0,1,4,5,7,8]
def Rs.q21 : List RV := [.tmp 4]
def Dl.q21 : List (List Nat) := [[5]]
def Mc.q21_L0 : MC := (.seq (.reg [
 ⟨none,some 9,false,.bin .lss,[.t 8,.t 7]⟩])
 (.seq (.ite (.t 9)
 .skip
 (.exit 0))
 (.seq (.blk 1 (.seq (.reg [
 ⟨none,some 10,false,.mv,[.t 8]⟩,
 ⟨none,some 5,true,.mv,[.t 10]⟩])
 (.seq (.reg [
 ⟨none,some 11,false,.mv,[.t 1]⟩,
 ⟨none,some 12,false,.mv,[.t 0]⟩,
 ⟨none,some 13,false,.mv,[.t 5]⟩,
 ⟨none,some 14,false,.iadr 1,[.t 12,.t 13]⟩,
 ⟨none,some 15,false,.ld 1 false,[.t 14]⟩,
 ⟨none,some 16,false,.bin .eql,[.t 11,.t 15]⟩])
 (.ite (.t 16)
 (.seq (.reg [
 ⟨none,some 17,false,.mv,[.t 5]⟩,
 ⟨none,some 4,true,.mv,[.t 17]⟩])
 .ret)
 .skip))))
 (.reg [
 ⟨none,some 18,false,.bin .add,[.t 8,.c (.int .i64 1)]⟩,
 ⟨none,some 8,true,.mv,[.t 18]⟩]))))
def Mc.q21 : MC := (.seq (.reg [
 ⟨none,some 4,true,.mv,[.c (.int .i64 0)]⟩])
 (.seq (.seq (.reg [
 ⟨none,some 6,false,.mv,[.t 0]⟩,
 ⟨none,some 7,true,.len 1,[.t 6]⟩,
 ⟨none,some 8,true,.mv,[.c (.int .i64 0)]⟩])
 (.blk 0 (.loop [5] Mc.q21_L0)))
 (.seq (.reg [
 ⟨none,some 4,true,.mv,[.c (.int .i64 (-1))]⟩])
 .ret)))
def Ks.q17 : List Nat := [0,1,4,5,7,8]
def Rs.q17 : List RV := [.tmp 4]
def Dl.q17 : List (List Nat) := [[5]]
def Mc.q17_L0 : MC := (.seq (.reg [
 ⟨none,some 9,false,.bin .lss,[.t 8,.t 7]⟩])
 (.seq (.ite (.t 9)
 .skip
 (.exit 0))
 (.seq (.blk 1 (.seq (.reg [
 ⟨none,some 10,false,.mv,[.t 8]⟩,
 ⟨none,some 5,true,.mv,[.t 10]⟩])
 (.seq (.reg [
 ⟨none,some 11,false,.mv,[.t 1]⟩,
 ⟨none,some 12,false,.mv,[.t 0]⟩,
 ⟨none,some 13,false,.mv,[.t 5]⟩,
 ⟨none,some 14,false,.iadr 1,[.t 12,.t 13]⟩,
 ⟨none,some 15,false,.ld 1 false,[.t 14]⟩,
 ⟨none,some 16,false,.callv,[.t 11,.t 15]⟩])
 (.ite (.t 16)
 (.seq (.reg [
 ⟨none,some 17,false,.mv,[.t 5]⟩,
 ⟨none,some 4,true,.mv,[.t 17]⟩])
 .ret)
 .skip))))
 (.reg [
 ⟨none,some 18,false,.bin .add,[.t 8,.c (.int .i64 1)]⟩,
 ⟨none,some 8,true,.mv,[.t 18]⟩]))))
def Mc.q17 : MC := (.seq (.reg [
 ⟨none,some 4,true,.mv,[.c (.int .i64 0)]⟩])
 (.seq (.seq (.reg [
 ⟨none,some 6,false,.mv,[.t 0]⟩,
 ⟨none,some 7,true,.len 1,[.t 6]⟩,
 ⟨none,some 8,true,.mv,[.c (.int .i64 0)]⟩])
 (.blk 0 (.loop [5] Mc.q17_L0)))
 (.seq (.reg [
 ⟨none,some 4,true,.mv,[.c (.int .i64 (-1))]⟩])
 .ret)))
def Ks.q34 : List Nat := [0,1,4]
def Rs.q34 : List RV := [.tmp 4]
def Dl.q34 : List (List Nat) := []
def Mc.q34 : MC := (.seq (.reg [
 ⟨none,some 4,true,.mv,[.c (.bool false)]⟩])
 (.seq (.reg [
 ⟨none,some 5,false,.mv,[.t 0]⟩,
 ⟨none,some 6,false,.mv,[.t 1]⟩,
 ⟨none,some 7,false,.call Fn.q41,[.t 5,.t 6]⟩,
 ⟨none,some 8,false,.bin .geq,[.t 7,.c (.int .i64 0)]⟩,
 ⟨none,some 4,true,.mv,[.t 8]⟩])
 .ret))
def Ks.tree_part_1 : List Nat := [0,2]
def Rs.tree_part_1 : List RV := [.tmp 2]
def Dl.tree_part_1 : List (List Nat) := []
def Mc.tree_part_1 : MC := (.seq (.reg [
 ⟨none,some 2,true,.mv,[.c (.bool false)]⟩])
 (.seq (.reg [
 ⟨none,some 3,false,.mv,[.t 0]⟩,
 ⟨none,some 4,false,.bin .geq,[.t 3,.c (.int .i32 97)]⟩,
 ⟨none,some 5,false,.mv,[.t 4]⟩,
 ⟨some (5,true),some 6,false,.mv,[.t 0]⟩,
 ⟨some (5,true),some 7,false,.bin .leq,[.t 6,.c (.int .i32 122)]⟩,
 ⟨none,some 8,false,.pick,[.t 5,.t 7,.c (.bool false)]⟩,
 ⟨none,some 9,false,.mv,[.t 8]⟩,
 ⟨some (9,false),some 10,false,.mv,[.t 0]⟩,
 ⟨some (9,false),some 11,false,.bin .geq,[.t 10,.c (.int .i32 48)]⟩,
 ⟨some (9,false),some 12,false,.mv,[.t 11]⟩,
 ⟨some (12,true),some 13,false,.mv,[.t 0]⟩,
 ⟨some (12,true),some 14,false,.bin .leq,[.t 13,.c (.int .i32 57)]⟩,
 ⟨some (9,false),some 15,false,.pick,[.t 12,.t 14,.c (.bool false)]⟩,
 ⟨none,some 16,false,.pick,[.t 9,.c (.bool true),.t 15]⟩,
 ⟨none,some 17,false,.mv,[.t 16]⟩,
 ⟨some (17,false),some 18,false,.mv,[.t 0]⟩,
 ⟨some (17,false),some 19,false,.bin .eql,[.t 18,.c (.int .i32 46)]⟩,
 ⟨none,some 20,false,.pick,[.t 17,.c (.bool true),.t 19]⟩,
 ⟨none,some 21,false,.mv,[.t 20]⟩,
 ⟨some (21,false),some 22,false,.mv,[.t 0]⟩,
 ⟨some (21,false),some 23,false,.bin .eql,[.t 22,.c (.int .i32 95)]⟩,
 ⟨none,some 24,false,.pick,[.t 21,.c (.bool true),.t 23]⟩,
 ⟨none,some 25,false,.mv,[.t 24]⟩,
 ⟨some (25,false),some 26,false,.mv,[.t 0]⟩,
 ⟨some (25,false),some 27,false,.bin .eql,[.t 26,.c (.int .i32 45)]⟩,
 ⟨none,some 28,false,.pick,[.t 25,.c (.bool true),.t 27]⟩,
 ⟨none,some 29,false,.un .not,[.t 28]⟩,
 ⟨none,some 2,true,.mv,[.t 29]⟩])
 .ret))
def Ks.q41 : List Nat := [0,1,4]
def Rs.q41 : List RV := [.tmp 4]
def Dl.q41 : List (List Nat) := []
def Mc.q41 : MC := (.seq (.reg [
 ⟨none,some 4,true,.mv,[.c (.int .i64 0)]⟩])
 (.seq (.reg [
 ⟨none,some 5,false,.mv,[.t 0]⟩,
 ⟨none,some 6,false,.mv,[.t 1]⟩,
 ⟨none,some 7,false,.call Fn.q42,[.t 5,.t 6,.c (.bool true)]⟩,
 ⟨none,some 4,true,.mv,[.t 7]⟩])
 .ret))
def Ks.q42 : List Nat := [0,1,2,6,7,8,10,11]
def Rs.q42 : List RV := [.tmp 6]
def Dl.q42 : List (List Nat) := [[7,8,11]]
def Mc.q42_L0 : MC := (.seq (.reg [
 ⟨none,some 11,true,.nxt,[.t 10]⟩,
 ⟨none,some 12,false,.ext 0,[.t 11]⟩])
 (.seq (.ite (.t 12)
 .skip
 (.exit 0))
 (.blk 1 (.seq (.reg [
 ⟨none,some 13,false,.ext 1,[.t 11]⟩,
 ⟨none,some 14,false,.ext 2,[.t 11]⟩,
 ⟨none,some 7,true,.mv,[.t 13]⟩,
 ⟨none,some 8,true,.mv,[.t 14]⟩])
 (.seq (.reg [
 ⟨none,some 15,false,.mv,[.t 1]⟩,
 ⟨none,some 16,false,.mv,[.t 8]⟩,
 ⟨none,some 17,false,.callv,[.t 15,.t 16]⟩,
 ⟨none,some 18,false,.mv,[.t 2]⟩,
 ⟨none,some 19,false,.eqB false,[.t 17,.t 18]⟩])
 (.ite (.t 19)
 (.seq (.reg [
 ⟨none,some 20,false,.mv,[.t 7]⟩,
 ⟨none,some 6,true,.mv,[.t 20]⟩])
 .ret)
 .skip))))))
def Mc.q42 : MC := (.seq (.reg [
 ⟨none,some 6,true,.mv,[.c (.int .i64 0)]⟩])
 (.seq (.seq (.reg [
 ⟨none,some 9,false,.mv,[.t 0]⟩,
 ⟨none,some 10,true,.rng,[.t 9]⟩])
 (.blk 0 (.loop [7,8,11] Mc.q42_L0)))
 (.seq (.reg [
 ⟨none,some 6,true,.mv,[.c (.int .i64 (-1))]⟩])
 .ret)))
def Ks.digest_Sum : List Nat := [0,2,3]
def Rs.digest_Sum : List RV := [.tmp 2]
def Dl.digest_Sum : List (List Nat) := []
def Mc.digest_Sum : MC := (.seq (.reg [
 ⟨none,some 2,true,.mv,[.c (.str [])]⟩])
 (.seq (.reg [
 ⟨none,some 4,false,.call Fn.digest_New,[]⟩,
 ⟨none,some 3,true,.mv,[.t 4]⟩])
 (.seq (.reg [
 ⟨none,some 5,false,.mv,[.t 3]⟩,
 ⟨none,some 6,false,.mv,[.t 0]⟩,
 ⟨none,some 7,false,.bsl false 1,[.t 6]⟩,
 ⟨none,some 8,false,.call Fn.q29,[.t 5,.t 7]⟩])
 (.seq (.reg [
 ⟨none,some 9,false,.mv,[.t 3]⟩,
 ⟨none,some 10,false,.call Fn.q35,[.t 9]⟩,
 ⟨none,some 2,true,.mv,[.t 10]⟩])
 .ret))))
def Ks.digest_New : List Nat := [0]
def Rs.digest_New : List RV := [.tmp 0]
def Dl.digest_New : List (List Nat) := []
def Mc.digest_New : MC := (.seq (.reg [
 ⟨none,some 0,true,.mv,[.c (.nilp)]⟩])
 (.seq (.reg [
 ⟨none,some 1,false,.bld [.int .u64 0,.int .u64 0,.int .u64 0,.int .u64 0,.int .u64 0,.int .u64 0,.int .u64 0,.int .u64 0,.int .u64 0,.int .u64 0,.int .u64 0,.int .u64 0,.int .u64 0,.int .u64 0,.int .u64 0,.int .u64 0,.int .u64 0,.int .u64 0,.int .u64 0,.int .u64 0,.int .u64 0,.int .u64 0,.int .u64 0,.int .u64 0,.int .u64 0,.nils,.int .i64 0,.int .u64 0,.int .u64 0,.int .u64 0,.int .u64 0,.int .u64 0,.int .u64 0,.int .u64 0,.int .u64 0,.int .u64 0,.int .u64 0,.int .u64 0,.int .u64 0,.int .u64 0,.int .u64 0,.int .u64 0,.int .u64 0,.int .u64 0,.int .u64 0,.int .u64 0,.int .u64 0,.int .u64 0,.int .u64 0,.int .u64 0,.int .u64 0,.int .u64 0,.str [],.str []] [],[]⟩,
 ⟨none,some 2,false,.box,[.t 1]⟩,
 ⟨none,some 0,true,.mv,[.t 2]⟩])
 .ret))
def Ks.q29 : List Nat := [0,1,4,6,7,8,9]
def Rs.q29 : List RV := [.tmp 4]
def Dl.q29 : List (List Nat) := [[6],[]]
def Ow.__digest_Sponge__Write : List Nat := [42,49]
def Mc.q29_L1 : MC := (.seq (.seq (.reg [
 ⟨none,some 31,false,.mv,[.t 0]⟩,
 ⟨none,some 32,false,.nilck,[.t 31]⟩,
 ⟨none,some 33,false,.fadr 25,[.t 32]⟩,
 ⟨none,some 34,false,.ld 1 false,[.t 33]⟩,
 ⟨none,some 35,false,.len 1,[.t 34]⟩,
 ⟨none,some 36,false,.bin .geq,[.t 35,.c (.int .i64 136)]⟩])
 (.ite (.t 36)
 .skip
 (.exit 2)))
 (.blk 3 (.seq (.reg [
 ⟨none,some 37,false,.mv,[.t 0]⟩,
 ⟨none,some 38,false,.mv,[.t 0]⟩,
 ⟨none,some 39,false,.nilck,[.t 38]⟩,
 ⟨none,some 40,false,.fadr 25,[.t 39]⟩,
 ⟨none,some 41,false,.ld 1 false,[.t 40]⟩,
 ⟨none,some 42,false,.slcf 1 false true false,[.t 41,.c (.int .i64 136)]⟩,
 ⟨none,some 43,false,.call Fn.q27,[.t 37,.t 42]⟩])
 (.reg [
 ⟨none,some 44,false,.mv,[.t 0]⟩,
 ⟨none,some 45,false,.mv,[.t 0]⟩,
 ⟨none,some 46,false,.nilck,[.t 45]⟩,
 ⟨none,some 47,false,.fadr 25,[.t 46]⟩,
 ⟨none,some 48,false,.ld 1 false,[.t 47]⟩,
 ⟨none,some 49,false,.slcf 1 true false false,[.t 48,.c (.int .i64 136)]⟩,
 ⟨none,some 50,false,.app false 1 1,[.c (.nils),.t 49]⟩,
 ⟨none,some 51,false,.nilck,[.t 44]⟩,
 ⟨none,some 52,false,.fadr 25,[.t 51]⟩,
 ⟨none,none,false,.st 1,[.t 52,.t 50]⟩]))))
def Mc.q29_L0 : MC := (.seq (.reg [
 ⟨none,some 10,false,.bin .lss,[.t 9,.t 8]⟩])
 (.seq (.ite (.t 10)
 .skip
 (.exit 0))
 (.seq (.blk 1 (.seq (.reg [
 ⟨none,some 11,false,.iadr 1,[.t 7,.t 9]⟩,
 ⟨none,some 12,false,.ld 1 false,[.t 11]⟩,
 ⟨none,some 6,true,.mv,[.t 12]⟩])
 (.seq (.reg [
 ⟨none,some 13,false,.mv,[.t 0]⟩,
 ⟨none,some 14,false,.nilck,[.t 13]⟩,
 ⟨none,some 15,false,.fadr 26,[.t 14]⟩,
 ⟨none,some 16,false,.ld 1 false,[.t 15]⟩,
 ⟨none,some 17,false,.mv,[.t 6]⟩,
 ⟨none,some 18,false,.len 0,[.t 17]⟩,
 ⟨none,some 19,false,.bin .add,[.t 16,.t 18]⟩,
 ⟨none,some 20,false,.nilck,[.t 13]⟩,
 ⟨none,some 21,false,.fadr 26,[.t 20]⟩,
 ⟨none,none,false,.st 1,[.t 21,.t 19]⟩])
 (.seq (.reg [
 ⟨none,some 22,false,.mv,[.t 0]⟩,
 ⟨none,some 23,false,.mv,[.t 0]⟩,
 ⟨none,some 24,false,.nilck,[.t 23]⟩,
 ⟨none,some 25,false,.fadr 25,[.t 24]⟩,
 ⟨none,some 26,false,.ld 1 false,[.t 25]⟩,
 ⟨none,some 27,false,.mv,[.t 6]⟩,
 ⟨none,some 28,false,.app true 1 1,[.t 26,.t 27]⟩,
 ⟨none,some 29,false,.nilck,[.t 22]⟩,
 ⟨none,some 30,false,.fadr 25,[.t 29]⟩,
 ⟨none,none,false,.st 1,[.t 30,.t 28]⟩])
 (.blk 2 (.loop [] Mc.q29_L1))))))
 (.reg [
 ⟨none,some 53,false,.bin .add,[.t 9,.c (.int .i64 1)]⟩,
 ⟨none,some 9,true,.mv,[.t 53]⟩]))))
def Mc.q29 : MC := (.seq (.reg [
 ⟨none,some 4,true,.mv,[.c (.int .i64 0)]⟩])
 (.seq (.seq (.reg [
 ⟨none,some 7,true,.mv,[.t 1]⟩,
 ⟨none,some 8,true,.len 1,[.t 7]⟩,
 ⟨none,some 9,true,.mv,[.c (.int .i64 0)]⟩])
 (.blk 0 (.loop [6] Mc.q29_L0)))
 (.seq (.reg [
 ⟨none,some 54,false,.mv,[.t 0]⟩,
 ⟨none,some 55,false,.nilck,[.t 54]⟩,
 ⟨none,some 56,false,.fadr 26,[.t 55]⟩,
 ⟨none,some 57,false,.ld 1 false,[.t 56]⟩,
 ⟨none,some 4,true,.mv,[.t 57]⟩])
 .ret)))
def Ks.q35 : List Nat := [0,2,3,4,5,6,65,66]
def Rs.q35 : List RV := [.tmp 2]
def Dl.q35 : List (List Nat) := [[6]]
def Mc.q35_L0 : MC := (.seq (.reg [
 ⟨none,some 67,false,.bin .lss,[.t 66,.t 65]⟩])
 (.seq (.ite (.t 67)
 .skip
 (.exit 0))
 (.seq (.blk 1 (.seq (.reg [
 ⟨none,some 68,false,.mv,[.t 66]⟩,
 ⟨none,some 6,true,.mv,[.t 68]⟩])
 (.reg [
 ⟨none,some 69,false,.mv,[.t 5]⟩,
 ⟨none,some 70,false,.mv,[.t 6]⟩,
 ⟨none,some 71,false,.mv,[.t 3]⟩,
 ⟨none,some 72,false,.mv,[.t 6]⟩,
 ⟨none,some 73,false,.bin .quo,[.t 72,.c (.int .i64 8)]⟩,
 ⟨none,some 74,false,.nilck,[.t 71]⟩,
 ⟨none,some 75,false,.fadr 0,[.t 74]⟩,
 ⟨none,some 76,false,.aadr 25 1,[.t 75,.t 73]⟩,
 ⟨none,some 77,false,.ld 1 false,[.t 76]⟩,
 ⟨none,some 78,false,.mv,[.t 6]⟩,
 ⟨none,some 79,false,.bin .rem,[.t 78,.c (.int .i64 8)]⟩,
 ⟨none,some 80,false,.bin .mul,[.c (.int .i64 8),.t 79]⟩,
 ⟨none,some 81,false,.bin .shr,[.t 77,.t 80]⟩,
 ⟨none,some 82,false,.conv .u8,[.t 81]⟩,
 ⟨none,some 83,false,.iadr 1,[.t 69,.t 70]⟩,
 ⟨none,none,false,.st 1,[.t 83,.t 82]⟩])))
 (.reg [
 ⟨none,some 84,false,.bin .add,[.t 66,.c (.int .i64 1)]⟩,
 ⟨none,some 66,true,.mv,[.t 84]⟩]))))
def Mc.q35 : MC := (.seq (.reg [
 ⟨none,some 2,true,.mv,[.c (.str [])]⟩])
 (.seq (.seq (.rgd [
 ⟨none,some 7,false,.mv,[.t 0]⟩,
 ⟨none,some 8,false,.nilck,[.t 7]⟩,
 ⟨none,some 9,false,.fadr 53,[.t 8]⟩,
 ⟨none,some 10,false,.ld 1 false,[.t 9]⟩,
 ⟨none,some 11,false,.bin .neq,[.t 10,.c (.str [])]⟩,
 ⟨none,some 12,false,.mv,[.t 11]⟩,
 ⟨some (12,true),some 13,false,.mv,[.t 0]⟩,
 ⟨some (12,true),some 14,false,.nilck,[.t 13]⟩,
 ⟨some (12,true),some 15,false,.fadr 27,[.t 14]⟩,
 ⟨some (12,true),some 16,false,.ld 25 true,[.t 15]⟩,
 ⟨some (12,true),some 17,false,.mv,[.t 0]⟩,
 ⟨some (12,true),some 18,false,.nilck,[.t 17]⟩,
 ⟨some (12,true),some 19,false,.fadr 0,[.t 18]⟩,
 ⟨some (12,true),some 20,false,.ld 25 true,[.t 19]⟩,
 ⟨some (12,true),some 21,false,.bot,[]⟩,
 ⟨none,some 22,false,.pick,[.t 12,.t 21,.c (.bool false)]⟩,
 ⟨none,some 23,false,.mv,[.t 22]⟩,
 ⟨some (23,true),some 24,false,.mv,[.t 0]⟩,
 ⟨some (23,true),some 25,false,.nilck,[.t 24]⟩,
 ⟨some (23,true),some 26,false,.fadr 52,[.t 25]⟩,
 ⟨some (23,true),some 27,false,.ld 1 false,[.t 26]⟩,
 ⟨some (23,true),some 28,false,.mv,[.t 0]⟩,
 ⟨some (23,true),some 29,false,.nilck,[.t 28]⟩,
 ⟨some (23,true),some 30,false,.fadr 25,[.t 29]⟩,
 ⟨some (23,true),some 31,false,.ld 1 false,[.t 30]⟩,
 ⟨some (23,true),some 32,false,.b2s,[.t 31]⟩,
 ⟨some (23,true),some 33,false,.bin .eql,[.t 27,.t 32]⟩,
 ⟨none,some 34,false,.pick,[.t 23,.t 33,.c (.bool false)]⟩])
 (.ite (.t 34)
 (.seq (.reg [
 ⟨none,some 35,false,.mv,[.t 0]⟩,
 ⟨none,some 36,false,.nilck,[.t 35]⟩,
 ⟨none,some 37,false,.fadr 53,[.t 36]⟩,
 ⟨none,some 38,false,.ld 1 false,[.t 37]⟩,
 ⟨none,some 2,true,.mv,[.t 38]⟩])
 .ret)
 .skip))
 (.seq (.reg [
 ⟨none,some 39,false,.mv,[.t 0]⟩,
 ⟨none,some 40,false,.call Fn.q30,[.t 39]⟩,
 ⟨none,some 3,true,.mv,[.t 40]⟩])
 (.seq (.reg [
 ⟨none,some 41,false,.mksl [.int .u8 0] 1,[.c (.int .i64 136),.c (.int .i64 136)]⟩,
 ⟨none,some 4,true,.mv,[.t 41]⟩])
 (.seq (.reg [
 ⟨none,some 42,false,.mv,[.t 4]⟩,
 ⟨none,some 43,false,.mv,[.t 3]⟩,
 ⟨none,some 44,false,.nilck,[.t 43]⟩,
 ⟨none,some 45,false,.fadr 25,[.t 44]⟩,
 ⟨none,some 46,false,.ld 1 false,[.t 45]⟩,
 ⟨none,some 47,false,.cpy false 1,[.t 42,.t 46]⟩])
 (.seq (.reg [
 ⟨none,some 48,false,.mv,[.t 4]⟩,
 ⟨none,some 49,false,.mv,[.t 3]⟩,
 ⟨none,some 50,false,.nilck,[.t 49]⟩,
 ⟨none,some 51,false,.fadr 25,[.t 50]⟩,
 ⟨none,some 52,false,.ld 1 false,[.t 51]⟩,
 ⟨none,some 53,false,.len 1,[.t 52]⟩,
 ⟨none,some 54,false,.iadr 1,[.t 48,.t 53]⟩,
 ⟨none,none,false,.st 1,[.t 54,.c (.int .u8 6)]⟩])
 (.seq (.reg [
 ⟨none,some 55,false,.mv,[.t 4]⟩,
 ⟨none,some 56,false,.iadr 1,[.t 55,.c (.int .i64 135)]⟩,
 ⟨none,some 57,false,.ld 1 false,[.t 56]⟩,
 ⟨none,some 58,false,.bin .xor,[.t 57,.c (.int .u8 128)]⟩,
 ⟨none,some 59,false,.iadr 1,[.t 55,.c (.int .i64 135)]⟩,
 ⟨none,none,false,.st 1,[.t 59,.t 58]⟩])
 (.seq (.reg [
 ⟨none,some 60,false,.mv,[.t 3]⟩,
 ⟨none,some 61,false,.mv,[.t 4]⟩,
 ⟨none,some 62,false,.call Fn.q27,[.t 60,.t 61]⟩])
 (.seq (.reg [
 ⟨none,some 63,false,.mksl [.int .u8 0] 1,[.c (.int .i64 32),.c (.int .i64 32)]⟩,
 ⟨none,some 5,true,.mv,[.t 63]⟩])
 (.seq (.seq (.reg [
 ⟨none,some 64,false,.mv,[.t 5]⟩,
 ⟨none,some 65,true,.len 1,[.t 64]⟩,
 ⟨none,some 66,true,.mv,[.c (.int .i64 0)]⟩])
 (.blk 0 (.loop [6] Mc.q35_L0)))
 (.seq (.rgd [
 ⟨none,some 85,false,.mv,[.t 0]⟩,
 ⟨none,some 86,false,.mv,[.t 0]⟩,
 ⟨none,some 87,false,.mv,[.t 0]⟩,
 ⟨none,some 88,false,.mv,[.t 0]⟩,
 ⟨none,some 89,false,.nilck,[.t 88]⟩,
 ⟨none,some 90,false,.fadr 0,[.t 89]⟩,
 ⟨none,some 91,false,.ld 25 true,[.t 90]⟩,
 ⟨none,some 92,false,.mv,[.t 0]⟩,
 ⟨none,some 93,false,.nilck,[.t 92]⟩,
 ⟨none,some 94,false,.fadr 25,[.t 93]⟩,
 ⟨none,some 95,false,.ld 1 false,[.t 94]⟩,
 ⟨none,some 96,false,.b2s,[.t 95]⟩,
 ⟨none,some 97,false,.mv,[.t 5]⟩,
 ⟨none,some 98,false,.b2s,[.t 97]⟩,
 ⟨none,some 99,false,.nilck,[.t 85]⟩,
 ⟨none,some 100,false,.fadr 27,[.t 99]⟩,
 ⟨none,none,false,.st 25,[.t 100,.t 91]⟩,
 ⟨none,some 101,false,.nilck,[.t 86]⟩,
 ⟨none,some 102,false,.fadr 52,[.t 101]⟩,
 ⟨none,none,false,.st 1,[.t 102,.t 96]⟩,
 ⟨none,some 103,false,.nilck,[.t 87]⟩,
 ⟨none,some 104,false,.fadr 53,[.t 103]⟩,
 ⟨none,none,false,.st 1,[.t 104,.t 98]⟩])
 (.seq (.reg [
 ⟨none,some 105,false,.mv,[.t 0]⟩,
 ⟨none,some 106,false,.nilck,[.t 105]⟩,
 ⟨none,some 107,false,.fadr 53,[.t 106]⟩,
 ⟨none,some 108,false,.ld 1 false,[.t 107]⟩,
 ⟨none,some 2,true,.mv,[.t 108]⟩])
 .ret))))))))))))
def Ks.q27 : List Nat := [0,1,4,6,7]
def Rs.q27 : List RV := []
def Dl.q27 : List (List Nat) := [[4]]
def Mc.q27_L0 : MC := (.seq (.reg [
 ⟨none,some 8,false,.bin .lss,[.t 7,.t 6]⟩])
 (.seq (.ite (.t 8)
 .skip
 (.exit 0))
 (.seq (.blk 1 (.seq (.reg [
 ⟨none,some 9,false,.mv,[.t 7]⟩,
 ⟨none,some 4,true,.mv,[.t 9]⟩])
 (.rgd [
 ⟨none,some 10,false,.mv,[.t 0]⟩,
 ⟨none,some 11,false,.mv,[.t 4]⟩,
 ⟨none,some 12,false,.bin .quo,[.t 11,.c (.int .i64 8)]⟩,
 ⟨none,some 13,false,.nilck,[.t 10]⟩,
 ⟨none,some 14,false,.fadr 0,[.t 13]⟩,
 ⟨none,some 15,false,.aadr 25 1,[.t 14,.t 12]⟩,
 ⟨none,some 16,false,.ld 1 false,[.t 15]⟩,
 ⟨none,some 17,false,.mv,[.t 1]⟩,
 ⟨none,some 18,false,.mv,[.t 4]⟩,
 ⟨none,some 19,false,.iadr 1,[.t 17,.t 18]⟩,
 ⟨none,some 20,false,.ld 1 false,[.t 19]⟩,
 ⟨none,some 21,false,.conv .u64,[.t 20]⟩,
 ⟨none,some 22,false,.mv,[.t 4]⟩,
 ⟨none,some 23,false,.bin .rem,[.t 22,.c (.int .i64 8)]⟩,
 ⟨none,some 24,false,.bin .mul,[.c (.int .i64 8),.t 23]⟩,
 ⟨none,some 25,false,.bin .shl,[.t 21,.t 24]⟩,
 ⟨none,some 26,false,.bin .xor,[.t 16,.t 25]⟩,
 ⟨none,some 27,false,.nilck,[.t 10]⟩,
 ⟨none,some 28,false,.fadr 0,[.t 27]⟩,
 ⟨none,some 29,false,.aadr 25 1,[.t 28,.t 12]⟩,
 ⟨none,none,false,.st 1,[.t 29,.t 26]⟩])))
 (.reg [
 ⟨none,some 30,false,.bin .add,[.t 7,.c (.int .i64 1)]⟩,
 ⟨none,some 7,true,.mv,[.t 30]⟩]))))
def Mc.q27 : MC := (.seq (.seq (.reg [
 ⟨none,some 5,false,.mv,[.t 1]⟩,
 ⟨none,some 6,true,.len 1,[.t 5]⟩,
 ⟨none,some 7,true,.mv,[.c (.int .i64 0)]⟩])
 (.blk 0 (.loop [4] Mc.q27_L0)))
 (.reg [
 ⟨none,some 31,false,.mv,[.t 0]⟩,
 ⟨none,some 32,false,.mv,[.t 0]⟩,
 ⟨none,some 33,false,.nilck,[.t 32]⟩,
 ⟨none,some 34,false,.fadr 0,[.t 33]⟩,
 ⟨none,some 35,false,.ld 25 true,[.t 34]⟩,
 ⟨none,some 36,false,.call Fn.q62,[.t 35]⟩,
 ⟨none,some 37,false,.nilck,[.t 31]⟩,
 ⟨none,some 38,false,.fadr 0,[.t 37]⟩,
 ⟨none,none,false,.st 25,[.t 38,.t 36]⟩]))
def Ks.q30 : List Nat := [0,2,3]
def Rs.q30 : List RV := [.tmp 2]
def Dl.q30 : List (List Nat) := []
def Mc.q30 : MC := (.seq (.reg [
 ⟨none,some 2,true,.mv,[.c (.nilp)]⟩])
 (.seq (.reg [
 ⟨none,some 4,false,.mv,[.t 0]⟩,
 ⟨none,some 5,false,.nilck,[.t 4]⟩,
 ⟨none,some 6,false,.ld 54 true,[.t 5]⟩,
 ⟨none,some 3,true,.alloc [.int .u64 0,.int .u64 0,.int .u64 0,.int .u64 0,.int .u64 0,.int .u64 0,.int .u64 0,.int .u64 0,.int .u64 0,.int .u64 0,.int .u64 0,.int .u64 0,.int .u64 0,.int .u64 0,.int .u64 0,.int .u64 0,.int .u64 0,.int .u64 0,.int .u64 0,.int .u64 0,.int .u64 0,.int .u64 0,.int .u64 0,.int .u64 0,.int .u64 0,.nils,.int .i64 0,.int .u64 0,.int .u64 0,.int .u64 0,.int .u64 0,.int .u64 0,.int .u64 0,.int .u64 0,.int .u64 0,.int .u64 0,.int .u64 0,.int .u64 0,.int .u64 0,.int .u64 0,.int .u64 0,.int .u64 0,.int .u64 0,.int .u64 0,.int .u64 0,.int .u64 0,.int .u64 0,.int .u64 0,.int .u64 0,.int .u64 0,.int .u64 0,.int .u64 0,.str [],.str []],[]⟩,
 ⟨none,none,false,.st 54,[.t 3,.t 6]⟩])
 (.seq (.reg [
 ⟨none,some 7,false,.mv,[.t 0]⟩,
 ⟨none,some 8,false,.nilck,[.t 7]⟩,
 ⟨none,some 9,false,.fadr 25,[.t 8]⟩,
 ⟨none,some 10,false,.ld 1 false,[.t 9]⟩,
 ⟨none,some 11,false,.app false 1 1,[.c (.nils),.t 10]⟩,
 ⟨none,some 12,false,.fadr 25,[.t 3]⟩,
 ⟨none,none,false,.st 1,[.t 12,.t 11]⟩])
 (.seq (.reg [
 ⟨none,some 2,true,.mv,[.t 3]⟩])
 .ret))))
def Ks.q62 : List Nat := [0,1,2,3,5,7,8]
def Rs.q62 : List RV := [.cell 2 25 true]
def Dl.q62 : List (List Nat) := [[5]]
def Mc.q62_L0 : MC := (.seq (.reg [
 ⟨none,some 9,false,.bin .lss,[.t 8,.c (.int .i64 24)]⟩])
 (.seq (.ite (.t 9)
 .skip
 (.exit 0))
 (.seq (.blk 1 (.seq (.reg [
 ⟨none,some 10,false,.iarr 24 1 false,[.t 7,.t 8]⟩,
 ⟨none,some 5,true,.mv,[.t 10]⟩])
 (.reg [
 ⟨none,some 11,false,.ld 25 true,[.t 1]⟩,
 ⟨none,some 12,false,.ld 25 true,[.t 3]⟩,
 ⟨none,some 13,false,.mv,[.t 5]⟩,
 ⟨none,some 14,false,.call Fn.q77,[.t 11,.t 12,.t 13]⟩,
 ⟨none,none,false,.st 25,[.t 1,.t 14]⟩])))
 (.reg [
 ⟨none,some 15,false,.bin .add,[.t 8,.c (.int .i64 1)]⟩,
 ⟨none,some 8,true,.mv,[.t 15]⟩]))))
def Mc.q62 : MC := (.seq (.reg [
 ⟨none,some 1,true,.box,[.t 0]⟩,
 ⟨none,some 2,true,.alloc [.int .u64 0,.int .u64 0,.int .u64 0,.int .u64 0,.int .u64 0,.int .u64 0,.int .u64 0,.int .u64 0,.int .u64 0,.int .u64 0,.int .u64 0,.int .u64 0,.int .u64 0,.int .u64 0,.int .u64 0,.int .u64 0,.int .u64 0,.int .u64 0,.int .u64 0,.int .u64 0,.int .u64 0,.int .u64 0,.int .u64 0,.int .u64 0,.int .u64 0],[]⟩])
 (.seq (.reg [
 ⟨none,some 6,false,.call Fn.q63,[]⟩,
 ⟨none,some 3,true,.alloc [.int .i64 0,.int .i64 0,.int .i64 0,.int .i64 0,.int .i64 0,.int .i64 0,.int .i64 0,.int .i64 0,.int .i64 0,.int .i64 0,.int .i64 0,.int .i64 0,.int .i64 0,.int .i64 0,.int .i64 0,.int .i64 0,.int .i64 0,.int .i64 0,.int .i64 0,.int .i64 0,.int .i64 0,.int .i64 0,.int .i64 0,.int .i64 0,.int .i64 0],[]⟩,
 ⟨none,none,false,.st 25,[.t 3,.t 6]⟩])
 (.seq (.seq (.reg [
 ⟨none,some 7,true,.call Fn.q50,[]⟩,
 ⟨none,some 8,true,.mv,[.c (.int .i64 0)]⟩])
 (.blk 0 (.loop [5] Mc.q62_L0)))
 (.seq (.reg [
 ⟨none,some 16,false,.ld 25 true,[.t 1]⟩,
 ⟨none,none,false,.st 25,[.t 2,.t 16]⟩])
 .ret))))
def Ks.q63 : List Nat := [0]
def Rs.q63 : List RV := [.cell 0 25 true]
def Dl.q63 : List (List Nat) := []
def Mc.q63 : MC := (.seq (.reg [
 ⟨none,some 0,true,.alloc [.int .i64 0,.int .i64 0,.int .i64 0,.int .i64 0,.int .i64 0,.int .i64 0,.int .i64 0,.int .i64 0,.int .i64 0,.int .i64 0,.int .i64 0,.int .i64 0,.int .i64 0,.int .i64 0,.int .i64 0,.int .i64 0,.int .i64 0,.int .i64 0,.int .i64 0,.int .i64 0,.int .i64 0,.int .i64 0,.int .i64 0,.int .i64 0,.int .i64 0],[]⟩])
 (.seq (.reg [
 ⟨none,some 1,false,.bld [.int .i64 0,.int .i64 0,.int .i64 0,.int .i64 0,.int .i64 0,.int .i64 0,.int .i64 0,.int .i64 0,.int .i64 0,.int .i64 0,.int .i64 0,.int .i64 0,.int .i64 0,.int .i64 0,.int .i64 0,.int .i64 0,.int .i64 0,.int .i64 0,.int .i64 0,.int .i64 0,.int .i64 0,.int .i64 0,.int .i64 0,.int .i64 0,.int .i64 0] [(0,1),(1,1),(2,1),(3,1),(4,1),(5,1),(6,1),(7,1),(8,1),(9,1),(10,1),(11,1),(12,1),(13,1),(14,1),(15,1),(16,1),(17,1),(18,1),(19,1),(20,1),(21,1),(22,1),(23,1),(24,1)],[.c (.int .i64 0),.c (.int .i64 1),.c (.int .i64 62),.c (.int .i64 28),.c (.int .i64 27),.c (.int .i64 36),.c (.int .i64 44),.c (.int .i64 6),.c (.int .i64 55),.c (.int .i64 20),.c (.int .i64 3),.c (.int .i64 10),.c (.int .i64 43),.c (.int .i64 25),.c (.int .i64 39),.c (.int .i64 41),.c (.int .i64 45),.c (.int .i64 15),.c (.int .i64 21),.c (.int .i64 8),.c (.int .i64 18),.c (.int .i64 2),.c (.int .i64 61),.c (.int .i64 56),.c (.int .i64 14)]⟩,
 ⟨none,none,false,.st 25,[.t 0,.t 1]⟩])
 .ret))
def Ks.q50 : List Nat := [0]
def Rs.q50 : List RV := [.cell 0 24 true]
def Dl.q50 : List (List Nat) := []
def Mc.q50 : MC := (.seq (.reg [
 ⟨none,some 0,true,.alloc [.int .u64 0,.int .u64 0,.int .u64 0,.int .u64 0,.int .u64 0,.int .u64 0,.int .u64 0,.int .u64 0,.int .u64 0,.int .u64 0,.int .u64 0,.int .u64 0,.int .u64 0,.int .u64 0,.int .u64 0,.int .u64 0,.int .u64 0,.int .u64 0,.int .u64 0,.int .u64 0,.int .u64 0,.int .u64 0,.int .u64 0,.int .u64 0],[]⟩])
 (.seq (.reg [
 ⟨none,some 1,false,.bld [.int .u64 0,.int .u64 0,.int .u64 0,.int .u64 0,.int .u64 0,.int .u64 0,.int .u64 0,.int .u64 0,.int .u64 0,.int .u64 0,.int .u64 0,.int .u64 0,.int .u64 0,.int .u64 0,.int .u64 0,.int .u64 0,.int .u64 0,.int .u64 0,.int .u64 0,.int .u64 0,.int .u64 0,.int .u64 0,.int .u64 0,.int .u64 0] [(0,1),(1,1),(2,1),(3,1),(4,1),(5,1),(6,1),(7,1),(8,1),(9,1),(10,1),(11,1),(12,1),(13,1),(14,1),(15,1),(16,1),(17,1),(18,1),(19,1),(20,1),(21,1),(22,1),(23,1)],[.c (.int .u64 1),.c (.int .u64 32898),.c (.int .u64 9223372036854808714),.c (.int .u64 9223372039002292224),.c (.int .u64 32907),.c (.int .u64 2147483649),.c (.int .u64 9223372039002292353),.c (.int .u64 9223372036854808585),.c (.int .u64 138),.c (.int .u64 136),.c (.int .u64 2147516425),.c (.int .u64 2147483658),.c (.int .u64 2147516555),.c (.int .u64 9223372036854775947),.c (.int .u64 9223372036854808713),.c (.int .u64 9223372036854808579),.c (.int .u64 9223372036854808578),.c (.int .u64 9223372036854775936),.c (.int .u64 32778),.c (.int .u64 9223372039002259466),.c (.int .u64 9223372039002292353),.c (.int .u64 9223372036854808704),.c (.int .u64 2147483649),.c (.int .u64 9223372039002292232)]⟩,
 ⟨none,none,false,.st 24,[.t 0,.t 1]⟩])
 .ret))
def Ks.q77 : List Nat := [0,1,2,3,4,6,7,8,9,10,11,12,13,14,15,16,17,18,30,31,69]
def Rs.q77 : List RV := [.cell 6 25 true]
def Dl.q77 : List (List Nat) := [[8,9],[11,12,13,14],[15,16]]
def Mc.q77_L0 : MC := (.seq (.reg [
 ⟨none,some 19,false,.bin .lss,[.t 18,.c (.int .i64 25)]⟩])
 (.seq (.ite (.t 19)
 .skip
 (.exit 0))
 (.seq (.blk 1 (.seq (.reg [
 ⟨none,some 20,false,.mv,[.t 18]⟩,
 ⟨none,some 21,false,.iarr 25 1 false,[.t 17,.t 18]⟩,
 ⟨none,some 8,true,.mv,[.t 20]⟩,
 ⟨none,some 9,true,.mv,[.t 21]⟩])
 (.reg [
 ⟨none,some 22,false,.mv,[.t 8]⟩,
 ⟨none,some 23,false,.bin .rem,[.t 22,.c (.int .i64 5)]⟩,
 ⟨none,some 24,false,.aadr 5 1,[.t 7,.t 23]⟩,
 ⟨none,some 25,false,.ld 1 false,[.t 24]⟩,
 ⟨none,some 26,false,.mv,[.t 9]⟩,
 ⟨none,some 27,false,.bin .xor,[.t 25,.t 26]⟩,
 ⟨none,some 28,false,.aadr 5 1,[.t 7,.t 23]⟩,
 ⟨none,none,false,.st 1,[.t 28,.t 27]⟩])))
 (.reg [
 ⟨none,some 29,false,.bin .add,[.t 18,.c (.int .i64 1)]⟩,
 ⟨none,some 18,true,.mv,[.t 29]⟩]))))
def Mc.q77_L1 : MC := (.seq (.reg [
 ⟨none,some 32,false,.bin .lss,[.t 31,.c (.int .i64 25)]⟩])
 (.seq (.ite (.t 32)
 .skip
 (.exit 2))
 (.seq (.blk 3 (.seq (.reg [
 ⟨none,some 33,false,.mv,[.t 31]⟩,
 ⟨none,some 34,false,.iarr 25 1 false,[.t 30,.t 31]⟩,
 ⟨none,some 11,true,.mv,[.t 33]⟩,
 ⟨none,some 12,true,.mv,[.t 34]⟩])
 (.seq (.reg [
 ⟨none,some 35,false,.mv,[.t 11]⟩,
 ⟨none,some 36,false,.bin .rem,[.t 35,.c (.int .i64 5)]⟩,
 ⟨none,some 37,false,.mv,[.t 11]⟩,
 ⟨none,some 38,false,.bin .quo,[.t 37,.c (.int .i64 5)]⟩,
 ⟨none,some 13,true,.mv,[.t 36]⟩,
 ⟨none,some 14,true,.mv,[.t 38]⟩])
 (.seq (.rgd [
 ⟨none,some 39,false,.mv,[.t 12]⟩,
 ⟨none,some 40,false,.mv,[.t 13]⟩,
 ⟨none,some 41,false,.bin .add,[.t 40,.c (.int .i64 4)]⟩,
 ⟨none,some 42,false,.bin .rem,[.t 41,.c (.int .i64 5)]⟩,
 ⟨none,some 43,false,.aadr 5 1,[.t 7,.t 42]⟩,
 ⟨none,some 44,false,.ld 1 false,[.t 43]⟩,
 ⟨none,some 45,false,.mv,[.t 13]⟩,
 ⟨none,some 46,false,.bin .add,[.t 45,.c (.int .i64 1)]⟩,
 ⟨none,some 47,false,.bin .rem,[.t 46,.c (.int .i64 5)]⟩,
 ⟨none,some 48,false,.aadr 5 1,[.t 7,.t 47]⟩,
 ⟨none,some 49,false,.ld 1 false,[.t 48]⟩,
 ⟨none,some 50,false,.call Fn.q33,[.t 49,.c (.int .i64 1)]⟩,
 ⟨none,some 51,false,.bin .xor,[.t 44,.t 50]⟩,
 ⟨none,some 52,false,.bin .xor,[.t 39,.t 51]⟩,
 ⟨none,some 12,true,.mv,[.t 52]⟩])
 (.reg [
 ⟨none,some 53,false,.mv,[.t 14]⟩,
 ⟨none,some 54,false,.mv,[.t 13]⟩,
 ⟨none,some 55,false,.bin .mul,[.c (.int .i64 2),.t 54]⟩,
 ⟨none,some 56,false,.mv,[.t 14]⟩,
 ⟨none,some 57,false,.bin .mul,[.c (.int .i64 3),.t 56]⟩,
 ⟨none,some 58,false,.bin .add,[.t 55,.t 57]⟩,
 ⟨none,some 59,false,.bin .rem,[.t 58,.c (.int .i64 5)]⟩,
 ⟨none,some 60,false,.bin .mul,[.c (.int .i64 5),.t 59]⟩,
 ⟨none,some 61,false,.bin .add,[.t 53,.t 60]⟩,
 ⟨none,some 62,false,.mv,[.t 12]⟩,
 ⟨none,some 63,false,.mv,[.t 11]⟩,
 ⟨none,some 64,false,.aadr 25 1,[.t 4,.t 63]⟩,
 ⟨none,some 65,false,.ld 1 false,[.t 64]⟩,
 ⟨none,some 66,false,.call Fn.q33,[.t 62,.t 65]⟩,
 ⟨none,some 67,false,.aadr 25 1,[.t 10,.t 61]⟩,
 ⟨none,none,false,.st 1,[.t 67,.t 66]⟩])))))
 (.reg [
 ⟨none,some 68,false,.bin .add,[.t 31,.c (.int .i64 1)]⟩,
 ⟨none,some 31,true,.mv,[.t 68]⟩]))))
def Mc.q77_L2 : MC := (.seq (.reg [
 ⟨none,some 70,false,.bin .lss,[.t 69,.c (.int .i64 25)]⟩])
 (.seq (.ite (.t 70)
 .skip
 (.exit 4))
 (.seq (.blk 5 (.seq (.reg [
 ⟨none,some 71,false,.mv,[.t 69]⟩,
 ⟨none,some 15,true,.mv,[.t 71]⟩])
 (.seq (.reg [
 ⟨none,some 72,false,.mv,[.t 15]⟩,
 ⟨none,some 73,false,.mv,[.t 15]⟩,
 ⟨none,some 74,false,.bin .rem,[.t 73,.c (.int .i64 5)]⟩,
 ⟨none,some 75,false,.bin .sub,[.t 72,.t 74]⟩,
 ⟨none,some 16,true,.mv,[.t 75]⟩])
 (.rgd [
 ⟨none,some 76,false,.mv,[.t 15]⟩,
 ⟨none,some 77,false,.mv,[.t 15]⟩,
 ⟨none,some 78,false,.aadr 25 1,[.t 10,.t 77]⟩,
 ⟨none,some 79,false,.ld 1 false,[.t 78]⟩,
 ⟨none,some 80,false,.mv,[.t 16]⟩,
 ⟨none,some 81,false,.mv,[.t 15]⟩,
 ⟨none,some 82,false,.bin .add,[.t 81,.c (.int .i64 1)]⟩,
 ⟨none,some 83,false,.bin .rem,[.t 82,.c (.int .i64 5)]⟩,
 ⟨none,some 84,false,.bin .add,[.t 80,.t 83]⟩,
 ⟨none,some 85,false,.aadr 25 1,[.t 10,.t 84]⟩,
 ⟨none,some 86,false,.ld 1 false,[.t 85]⟩,
 ⟨none,some 87,false,.un .xor,[.t 86]⟩,
 ⟨none,some 88,false,.mv,[.t 16]⟩,
 ⟨none,some 89,false,.mv,[.t 15]⟩,
 ⟨none,some 90,false,.bin .add,[.t 89,.c (.int .i64 2)]⟩,
 ⟨none,some 91,false,.bin .rem,[.t 90,.c (.int .i64 5)]⟩,
 ⟨none,some 92,false,.bin .add,[.t 88,.t 91]⟩,
 ⟨none,some 93,false,.aadr 25 1,[.t 10,.t 92]⟩,
 ⟨none,some 94,false,.ld 1 false,[.t 93]⟩,
 ⟨none,some 95,false,.bin .and,[.t 87,.t 94]⟩,
 ⟨none,some 96,false,.bin .xor,[.t 79,.t 95]⟩,
 ⟨none,some 97,false,.aadr 25 1,[.t 3,.t 76]⟩,
 ⟨none,none,false,.st 1,[.t 97,.t 96]⟩]))))
 (.reg [
 ⟨none,some 98,false,.bin .add,[.t 69,.c (.int .i64 1)]⟩,
 ⟨none,some 69,true,.mv,[.t 98]⟩]))))
def Mc.q77 : MC := (.seq (.reg [
 ⟨none,some 3,true,.box,[.t 0]⟩,
 ⟨none,some 4,true,.box,[.t 1]⟩,
 ⟨none,some 6,true,.alloc [.int .u64 0,.int .u64 0,.int .u64 0,.int .u64 0,.int .u64 0,.int .u64 0,.int .u64 0,.int .u64 0,.int .u64 0,.int .u64 0,.int .u64 0,.int .u64 0,.int .u64 0,.int .u64 0,.int .u64 0,.int .u64 0,.int .u64 0,.int .u64 0,.int .u64 0,.int .u64 0,.int .u64 0,.int .u64 0,.int .u64 0,.int .u64 0,.int .u64 0],[]⟩])
 (.seq (.reg [
 ⟨none,some 7,true,.alloc [.int .u64 0,.int .u64 0,.int .u64 0,.int .u64 0,.int .u64 0],[]⟩])
 (.seq (.seq (.reg [
 ⟨none,some 17,true,.ld 25 true,[.t 3]⟩,
 ⟨none,some 18,true,.mv,[.c (.int .i64 0)]⟩])
 (.blk 0 (.loop [8,9] Mc.q77_L0)))
 (.seq (.reg [
 ⟨none,some 10,true,.alloc [.int .u64 0,.int .u64 0,.int .u64 0,.int .u64 0,.int .u64 0,.int .u64 0,.int .u64 0,.int .u64 0,.int .u64 0,.int .u64 0,.int .u64 0,.int .u64 0,.int .u64 0,.int .u64 0,.int .u64 0,.int .u64 0,.int .u64 0,.int .u64 0,.int .u64 0,.int .u64 0,.int .u64 0,.int .u64 0,.int .u64 0,.int .u64 0,.int .u64 0],[]⟩])
 (.seq (.seq (.reg [
 ⟨none,some 30,true,.ld 25 true,[.t 3]⟩,
 ⟨none,some 31,true,.mv,[.c (.int .i64 0)]⟩])
 (.blk 2 (.loop [11,12,13,14] Mc.q77_L1)))
 (.seq (.seq (.reg [
 ⟨none,some 69,true,.mv,[.c (.int .i64 0)]⟩])
 (.blk 4 (.loop [15,16] Mc.q77_L2)))
 (.seq (.reg [
 ⟨none,some 99,false,.aadr 25 1,[.t 3,.c (.int .i64 0)]⟩,
 ⟨none,some 100,false,.ld 1 false,[.t 99]⟩,
 ⟨none,some 101,false,.mv,[.t 2]⟩,
 ⟨none,some 102,false,.bin .xor,[.t 100,.t 101]⟩,
 ⟨none,some 103,false,.aadr 25 1,[.t 3,.c (.int .i64 0)]⟩,
 ⟨none,none,false,.st 1,[.t 103,.t 102]⟩])
 (.seq (.reg [
 ⟨none,some 104,false,.ld 25 true,[.t 3]⟩,
 ⟨none,none,false,.st 25,[.t 6,.t 104]⟩])
 .ret))))))))
def Ks.q33 : List Nat := [0,1,4,5]
def Rs.q33 : List RV := [.tmp 4]
def Dl.q33 : List (List Nat) := []
def Mc.q33 : MC := (.seq (.reg [
 ⟨none,some 4,true,.mv,[.c (.int .u64 0)]⟩])
 (.seq (.reg [
 ⟨none,some 6,false,.mv,[.t 1]⟩,
 ⟨none,some 7,false,.conv .u64,[.t 6]⟩,
 ⟨none,some 8,false,.bin .and,[.t 7,.c (.int .u64 63)]⟩,
 ⟨none,some 5,true,.mv,[.t 8]⟩])
 (.seq (.reg [
 ⟨none,some 9,false,.mv,[.t 0]⟩,
 ⟨none,some 10,false,.mv,[.t 5]⟩,
 ⟨none,some 11,false,.bin .shl,[.t 9,.t 10]⟩,
 ⟨none,some 12,false,.mv,[.t 0]⟩,
 ⟨none,some 13,false,.mv,[.t 5]⟩,
 ⟨none,some 14,false,.bin .sub,[.c (.int .u64 64),.t 13]⟩,
 ⟨none,some 15,false,.bin .shr,[.t 12,.t 14]⟩,
 ⟨none,some 16,false,.bin .or,[.t 11,.t 15]⟩,
 ⟨none,some 4,true,.mv,[.t 16]⟩])
 .ret)))
end Go.Proofs.YtopiadllkglamaaGreatDoor
