/- The functions,resolved: by program (Gen.lean). -/
import Derived.Test.YtaadifodgahnjaaGreatDoorZRecIds
namespace Go.Proofs.YtaadifodgahnjaaGreatDoor
def Ks.q25 : List Nat := [0,2,3,4,5,6,7,8]
def Rs.q25 : List RV := [.tmp 2]
def Dl.q25 : List (List Nat) := []
def Mc.q25 : MC := (.seq (.reg [
 ⟨none,some 2,true,.mv,[.c (.bool false)]⟩])
 (.seq (.seq (.reg [
 ⟨none,some 9,false,.call Fn.q44,[]⟩,
 ⟨none,some 10,false,.un .not,[.t 9]⟩,
 ⟨none,some 11,false,.mv,[.t 10]⟩,
 ⟨some (11,false),some 12,false,.mv,[.t 0]⟩,
 ⟨some (11,false),some 13,false,.len 0,[.t 12]⟩,
 ⟨some (11,false),some 14,false,.bin .gtr,[.t 13,.c (.int .i64 20000)]⟩,
 ⟨none,some 15,false,.pick,[.t 11,.c (.bool true),.t 14]⟩])
 (.ite (.t 15)
 (.seq (.reg [
 ⟨none,some 16,false,.call Fn.q44,[]⟩,
 ⟨none,some 2,true,.mv,[.t 16]⟩])
 .ret)
 .skip))
 (.seq (.reg [
 ⟨none,some 18,false,.mv,[.t 0]⟩,
 ⟨none,some 19,false,.call Fn.bundle_Read,[.t 18]⟩,
 ⟨none,some 17,false,.mv,[.t 19]⟩,
 ⟨none,some 20,false,.ext 0,[.t 17]⟩,
 ⟨none,some 21,false,.ext 1,[.t 17]⟩,
 ⟨none,some 22,false,.ext 2,[.t 17]⟩,
 ⟨none,some 3,true,.mv,[.t 20]⟩,
 ⟨none,some 4,true,.mv,[.t 21]⟩,
 ⟨none,some 5,true,.mv,[.t 22]⟩])
 (.seq (.reg [
 ⟨none,some 24,false,.mv,[.t 0]⟩,
 ⟨none,some 25,false,.call Fn.q56,[.t 24]⟩,
 ⟨none,some 23,false,.mv,[.t 25]⟩,
 ⟨none,some 26,false,.ext 0,[.t 23]⟩,
 ⟨none,some 27,false,.ext 1,[.t 23]⟩,
 ⟨none,some 28,false,.ext 2,[.t 23]⟩,
 ⟨none,some 6,true,.mv,[.t 26]⟩,
 ⟨none,some 7,true,.mv,[.t 27]⟩,
 ⟨none,some 8,true,.mv,[.t 28]⟩])
 (.seq (.reg [
 ⟨none,some 29,false,.mv,[.t 3]⟩,
 ⟨none,some 30,false,.mv,[.t 6]⟩,
 ⟨none,some 31,false,.bin .eql,[.t 29,.t 30]⟩,
 ⟨none,some 32,false,.mv,[.t 31]⟩,
 ⟨some (32,true),some 33,false,.mv,[.t 4]⟩,
 ⟨some (32,true),some 34,false,.mv,[.t 7]⟩,
 ⟨some (32,true),some 35,false,.bin .eql,[.t 33,.t 34]⟩,
 ⟨none,some 36,false,.pick,[.t 32,.t 35,.c (.bool false)]⟩,
 ⟨none,some 37,false,.mv,[.t 36]⟩,
 ⟨some (37,true),some 38,false,.mv,[.t 5]⟩,
 ⟨some (37,true),some 39,false,.mv,[.t 8]⟩,
 ⟨some (37,true),some 40,false,.bin .eql,[.t 38,.t 39]⟩,
 ⟨none,some 41,false,.pick,[.t 37,.t 40,.c (.bool false)]⟩,
 ⟨none,some 2,true,.mv,[.t 41]⟩])
 .ret)))))
def Ks.bundle_Read : List Nat := [0,2,3,4,5,6,7,8,10,11,12,14,15,83,84,85]
def Rs.bundle_Read : List RV := [.tmp 2,.tmp 3,.tmp 4]
def Dl.bundle_Read : List (List Nat) := [[14,15]]
def Mc.bundle_Read_L0 : MC := (.seq (.reg [
 ⟨none,some 86,false,.bin .lss,[.t 85,.t 84]⟩])
 (.seq (.ite (.t 86)
 .skip
 (.exit 0))
 (.seq (.blk 1 (.seq (.reg [
 ⟨none,some 87,false,.iadr 1,[.t 83,.t 85]⟩,
 ⟨none,some 88,false,.ld 1 false,[.t 87]⟩,
 ⟨none,some 14,true,.mv,[.t 88]⟩])
 (.seq (.reg [
 ⟨none,some 89,false,.mv,[.t 14]⟩,
 ⟨none,some 90,false,.iadr 1,[.t 89,.c (.int .i64 0)]⟩,
 ⟨none,some 91,false,.ld 1 false,[.t 90]⟩,
 ⟨none,some 92,false,.bin .eql,[.t 91,.c (.str [112,97,112,101,114])]⟩,
 ⟨none,some 93,false,.mv,[.t 92]⟩,
 ⟨some (93,true),some 94,false,.mv,[.t 12]⟩,
 ⟨some (93,true),some 95,false,.look .s false (.int .i64 0),[.t 94,.c (.str [115,111,117,114,99,101])]⟩,
 ⟨some (93,true),some 96,false,.bin .eql,[.t 95,.c (.int .i64 0)]⟩,
 ⟨none,some 97,false,.pick,[.t 93,.t 96,.c (.bool false)]⟩,
 ⟨none,some 98,false,.mv,[.t 97]⟩,
 ⟨some (98,false),some 99,false,.mv,[.t 14]⟩,
 ⟨some (98,false),some 100,false,.iadr 1,[.t 99,.c (.int .i64 0)]⟩,
 ⟨some (98,false),some 101,false,.ld 1 false,[.t 100]⟩,
 ⟨some (98,false),some 102,false,.bin .eql,[.t 101,.c (.str [115,111,117,114,99,101])]⟩,
 ⟨none,some 103,false,.pick,[.t 98,.c (.bool true),.t 102]⟩,
 ⟨none,some 15,true,.mv,[.t 103]⟩])
 (.seq (.seq (.rgd [
 ⟨none,some 104,false,.mv,[.t 15]⟩,
 ⟨none,some 105,false,.un .not,[.t 104]⟩,
 ⟨none,some 106,false,.mv,[.t 105]⟩,
 ⟨some (106,false),some 107,false,.mv,[.t 14]⟩,
 ⟨some (106,false),some 108,false,.call Fn.bundle_file,[.t 107]⟩,
 ⟨some (106,false),some 109,false,.un .not,[.t 108]⟩,
 ⟨none,some 110,false,.pick,[.t 106,.c (.bool true),.t 109]⟩,
 ⟨none,some 111,false,.mv,[.t 110]⟩,
 ⟨some (111,false),some 112,false,.mv,[.t 14]⟩,
 ⟨some (111,false),some 113,false,.iadr 1,[.t 112,.c (.int .i64 1)]⟩,
 ⟨some (111,false),some 114,false,.ld 1 false,[.t 113]⟩,
 ⟨some (111,false),some 115,false,.mv,[.t 11]⟩,
 ⟨some (111,false),some 116,false,.mv,[.t 14]⟩,
 ⟨some (111,false),some 117,false,.iadr 1,[.t 116,.c (.int .i64 0)]⟩,
 ⟨some (111,false),some 118,false,.ld 1 false,[.t 117]⟩,
 ⟨some (111,false),some 119,false,.look .s false (.str []),[.t 115,.t 118]⟩,
 ⟨some (111,false),some 120,false,.bin .leq,[.t 114,.t 119]⟩,
 ⟨none,some 121,false,.pick,[.t 111,.c (.bool true),.t 120]⟩,
 ⟨none,some 122,false,.mv,[.t 121]⟩,
 ⟨some (122,false),some 123,false,.mv,[.t 12]⟩,
 ⟨some (122,false),some 124,false,.mv,[.t 14]⟩,
 ⟨some (122,false),some 125,false,.iadr 1,[.t 124,.c (.int .i64 0)]⟩,
 ⟨some (122,false),some 126,false,.ld 1 false,[.t 125]⟩,
 ⟨some (122,false),some 127,false,.look .s false (.int .i64 0),[.t 123,.t 126]⟩,
 ⟨some (122,false),some 128,false,.bin .eql,[.t 127,.c (.int .i64 64)]⟩,
 ⟨none,some 129,false,.pick,[.t 122,.c (.bool true),.t 128]⟩])
 (.ite (.t 129)
 (.seq (.reg [
 ⟨none,some 2,true,.mv,[.c (.str [])]⟩,
 ⟨none,some 3,true,.mv,[.c (.str [])]⟩,
 ⟨none,some 4,true,.mv,[.c (.int .i64 17)]⟩])
 .ret)
 .skip))
 (.seq (.rgd [
 ⟨none,some 130,false,.mv,[.t 11]⟩,
 ⟨none,some 131,false,.mv,[.t 14]⟩,
 ⟨none,some 132,false,.iadr 1,[.t 131,.c (.int .i64 0)]⟩,
 ⟨none,some 133,false,.ld 1 false,[.t 132]⟩,
 ⟨none,some 134,false,.mv,[.t 14]⟩,
 ⟨none,some 135,false,.iadr 1,[.t 134,.c (.int .i64 1)]⟩,
 ⟨none,some 136,false,.ld 1 false,[.t 135]⟩,
 ⟨none,none,false,.mapup .s,[.t 130,.t 133,.t 136]⟩])
 (.reg [
 ⟨none,some 137,false,.mv,[.t 12]⟩,
 ⟨none,some 138,false,.mv,[.t 14]⟩,
 ⟨none,some 139,false,.iadr 1,[.t 138,.c (.int .i64 0)]⟩,
 ⟨none,some 140,false,.ld 1 false,[.t 139]⟩,
 ⟨none,some 141,false,.look .s false (.int .i64 0),[.t 137,.t 140]⟩,
 ⟨none,some 142,false,.bin .add,[.t 141,.c (.int .i64 1)]⟩,
 ⟨none,none,false,.mapup .s,[.t 137,.t 140,.t 142]⟩]))))))
 (.reg [
 ⟨none,some 143,false,.bin .add,[.t 85,.c (.int .i64 1)]⟩,
 ⟨none,some 85,true,.mv,[.t 143]⟩]))))
def Mc.bundle_Read : MC := (.seq (.reg [
 ⟨none,some 2,true,.mv,[.c (.str [])]⟩,
 ⟨none,some 3,true,.mv,[.c (.str [])]⟩,
 ⟨none,some 4,true,.mv,[.c (.int .i64 0)]⟩])
 (.seq (.reg [
 ⟨none,some 17,false,.mv,[.t 0]⟩,
 ⟨none,some 18,false,.call Fn.bundle_rows,[.t 17]⟩,
 ⟨none,some 16,false,.mv,[.t 18]⟩,
 ⟨none,some 19,false,.ext 0,[.t 16]⟩,
 ⟨none,some 20,false,.ext 1,[.t 16]⟩,
 ⟨none,some 5,true,.mv,[.t 19]⟩,
 ⟨none,some 6,true,.mv,[.t 20]⟩])
 (.seq (.seq (.reg [
 ⟨none,some 21,false,.mv,[.t 6]⟩,
 ⟨none,some 22,false,.un .not,[.t 21]⟩,
 ⟨none,some 23,false,.mv,[.t 22]⟩,
 ⟨some (23,false),some 24,false,.mv,[.t 5]⟩,
 ⟨some (23,false),some 25,false,.len 1,[.t 24]⟩,
 ⟨some (23,false),some 26,false,.bin .lss,[.t 25,.c (.int .i64 2)]⟩,
 ⟨none,some 27,false,.pick,[.t 23,.c (.bool true),.t 26]⟩,
 ⟨none,some 28,false,.mv,[.t 27]⟩,
 ⟨some (28,false),some 29,false,.mv,[.t 5]⟩,
 ⟨some (28,false),some 30,false,.iadr 1,[.t 29,.c (.int .i64 0)]⟩,
 ⟨some (28,false),some 31,false,.ld 1 false,[.t 30]⟩,
 ⟨some (28,false),some 32,false,.len 1,[.t 31]⟩,
 ⟨some (28,false),some 33,false,.bin .neq,[.t 32,.c (.int .i64 2)]⟩,
 ⟨none,some 34,false,.pick,[.t 28,.c (.bool true),.t 33]⟩,
 ⟨none,some 35,false,.mv,[.t 34]⟩,
 ⟨some (35,false),some 36,false,.mv,[.t 5]⟩,
 ⟨some (35,false),some 37,false,.iadr 1,[.t 36,.c (.int .i64 1)]⟩,
 ⟨some (35,false),some 38,false,.ld 1 false,[.t 37]⟩,
 ⟨some (35,false),some 39,false,.len 1,[.t 38]⟩,
 ⟨some (35,false),some 40,false,.bin .neq,[.t 39,.c (.int .i64 2)]⟩,
 ⟨none,some 41,false,.pick,[.t 35,.c (.bool true),.t 40]⟩,
 ⟨none,some 42,false,.mv,[.t 41]⟩,
 ⟨some (42,false),some 43,false,.mv,[.t 5]⟩,
 ⟨some (42,false),some 44,false,.iadr 1,[.t 43,.c (.int .i64 0)]⟩,
 ⟨some (42,false),some 45,false,.ld 1 false,[.t 44]⟩,
 ⟨some (42,false),some 46,false,.iadr 1,[.t 45,.c (.int .i64 0)]⟩,
 ⟨some (42,false),some 47,false,.ld 1 false,[.t 46]⟩,
 ⟨some (42,false),some 48,false,.bin .neq,[.t 47,.c (.str [111,117,116,112,117,116])]⟩,
 ⟨none,some 49,false,.pick,[.t 42,.c (.bool true),.t 48]⟩,
 ⟨none,some 50,false,.mv,[.t 49]⟩,
 ⟨some (50,false),some 51,false,.mv,[.t 5]⟩,
 ⟨some (50,false),some 52,false,.iadr 1,[.t 51,.c (.int .i64 1)]⟩,
 ⟨some (50,false),some 53,false,.ld 1 false,[.t 52]⟩,
 ⟨some (50,false),some 54,false,.iadr 1,[.t 53,.c (.int .i64 0)]⟩,
 ⟨some (50,false),some 55,false,.ld 1 false,[.t 54]⟩,
 ⟨some (50,false),some 56,false,.bin .neq,[.t 55,.c (.str [98,105,110,97,114,121])]⟩,
 ⟨none,some 57,false,.pick,[.t 50,.c (.bool true),.t 56]⟩])
 (.ite (.t 57)
 (.seq (.reg [
 ⟨none,some 2,true,.mv,[.c (.str [])]⟩,
 ⟨none,some 3,true,.mv,[.c (.str [])]⟩,
 ⟨none,some 4,true,.mv,[.c (.int .i64 17)]⟩])
 .ret)
 .skip))
 (.seq (.rgd [
 ⟨none,some 58,false,.mv,[.t 5]⟩,
 ⟨none,some 59,false,.iadr 1,[.t 58,.c (.int .i64 0)]⟩,
 ⟨none,some 60,false,.ld 1 false,[.t 59]⟩,
 ⟨none,some 61,false,.iadr 1,[.t 60,.c (.int .i64 1)]⟩,
 ⟨none,some 62,false,.ld 1 false,[.t 61]⟩,
 ⟨none,some 63,false,.mv,[.t 5]⟩,
 ⟨none,some 64,false,.iadr 1,[.t 63,.c (.int .i64 1)]⟩,
 ⟨none,some 65,false,.ld 1 false,[.t 64]⟩,
 ⟨none,some 66,false,.iadr 1,[.t 65,.c (.int .i64 1)]⟩,
 ⟨none,some 67,false,.ld 1 false,[.t 66]⟩,
 ⟨none,some 7,true,.mv,[.t 62]⟩,
 ⟨none,some 8,true,.mv,[.t 67]⟩])
 (.seq (.seq (.reg [
 ⟨none,some 69,false,.mv,[.t 8]⟩,
 ⟨none,some 70,false,.call Fn.q69,[.t 69]⟩,
 ⟨none,some 68,false,.mv,[.t 70]⟩,
 ⟨none,some 71,false,.ext 0,[.t 68]⟩,
 ⟨none,some 72,false,.ext 1,[.t 68]⟩,
 ⟨none,some 9,false,.mv,[.t 71]⟩,
 ⟨none,some 10,true,.mv,[.t 72]⟩])
 (.seq (.reg [
 ⟨none,some 73,false,.mv,[.t 10]⟩,
 ⟨none,some 74,false,.bin .neq,[.t 73,.c (.int .i64 0)]⟩,
 ⟨none,some 75,false,.mv,[.t 74]⟩,
 ⟨some (75,false),some 76,false,.mv,[.t 7]⟩,
 ⟨some (75,false),some 77,false,.call Fn.tree_Path,[.t 76]⟩,
 ⟨some (75,false),some 78,false,.bin .neq,[.t 77,.c (.int .i64 0)]⟩,
 ⟨none,some 79,false,.pick,[.t 75,.c (.bool true),.t 78]⟩])
 (.ite (.t 79)
 (.seq (.reg [
 ⟨none,some 2,true,.mv,[.c (.str [])]⟩,
 ⟨none,some 3,true,.mv,[.c (.str [])]⟩,
 ⟨none,some 4,true,.mv,[.c (.int .i64 17)]⟩])
 .ret)
 .skip)))
 (.seq (.reg [
 ⟨none,some 80,false,.mkmap,[]⟩,
 ⟨none,some 11,true,.mv,[.t 80]⟩])
 (.seq (.reg [
 ⟨none,some 81,false,.mkmap,[]⟩,
 ⟨none,some 12,true,.mv,[.t 81]⟩])
 (.seq (.seq (.reg [
 ⟨none,some 82,false,.mv,[.t 5]⟩,
 ⟨none,some 83,true,.slc (some 1) true false false,[.t 82,.c (.int .i64 2)]⟩,
 ⟨none,some 84,true,.len 1,[.t 83]⟩,
 ⟨none,some 85,true,.mv,[.c (.int .i64 0)]⟩])
 (.blk 0 (.loop [14,15] Mc.bundle_Read_L0)))
 (.seq (.reg [
 ⟨none,some 144,false,.mv,[.t 7]⟩,
 ⟨none,some 145,false,.mv,[.t 8]⟩,
 ⟨none,some 2,true,.mv,[.t 144]⟩,
 ⟨none,some 3,true,.mv,[.t 145]⟩,
 ⟨none,some 4,true,.mv,[.c (.int .i64 0)]⟩])
 .ret)))))))))
def Ks.q56 : List Nat := [0,2,3,4,5,6,8,9,10,11,12,13,15]
def Rs.q56 : List RV := [.tmp 2,.tmp 3,.tmp 4]
def Dl.q56 : List (List Nat) := [[13,15]]
def Mc.q56_L0 : MC := (.seq (.seq (.reg [
 ⟨none,some 78,false,.mv,[.t 12]⟩,
 ⟨none,some 79,false,.mv,[.t 5]⟩,
 ⟨none,some 80,false,.len 1,[.t 79]⟩,
 ⟨none,some 81,false,.bin .lss,[.t 78,.t 80]⟩])
 (.ite (.t 81)
 .skip
 (.exit 0)))
 (.seq (.blk 1 (.seq (.reg [
 ⟨none,some 84,false,.mv,[.t 5]⟩,
 ⟨none,some 85,false,.mv,[.t 12]⟩,
 ⟨none,some 86,false,.iadr 1,[.t 84,.t 85]⟩,
 ⟨none,some 87,false,.ld 1 false,[.t 86]⟩,
 ⟨none,some 13,true,.mv,[.t 87]⟩])
 (.seq (.seq (.reg [
 ⟨none,some 88,false,.mv,[.t 13]⟩,
 ⟨none,some 89,false,.len 1,[.t 88]⟩,
 ⟨none,some 90,false,.bin .neq,[.t 89,.c (.int .i64 4)]⟩,
 ⟨none,some 91,false,.mv,[.t 90]⟩,
 ⟨some (91,false),some 92,false,.mv,[.t 13]⟩,
 ⟨some (91,false),some 93,false,.iadr 1,[.t 92,.c (.int .i64 1)]⟩,
 ⟨some (91,false),some 94,false,.ld 1 false,[.t 93]⟩,
 ⟨some (91,false),some 95,false,.call Fn.q57,[.t 94]⟩,
 ⟨some (91,false),some 96,false,.bin .neq,[.t 95,.c (.int .i64 0)]⟩,
 ⟨none,some 97,false,.pick,[.t 91,.c (.bool true),.t 96]⟩,
 ⟨none,some 98,false,.mv,[.t 97]⟩,
 ⟨some (98,false),some 99,false,.mv,[.t 13]⟩,
 ⟨some (98,false),some 100,false,.iadr 1,[.t 99,.c (.int .i64 2)]⟩,
 ⟨some (98,false),some 101,false,.ld 1 false,[.t 100]⟩,
 ⟨some (98,false),some 102,false,.call Fn.q58,[.t 101]⟩,
 ⟨some (98,false),some 103,false,.un .not,[.t 102]⟩,
 ⟨none,some 104,false,.pick,[.t 98,.c (.bool true),.t 103]⟩])
 (.ite (.t 104)
 (.seq (.reg [
 ⟨none,some 2,true,.mv,[.c (.str [])]⟩,
 ⟨none,some 3,true,.mv,[.c (.str [])]⟩,
 ⟨none,some 4,true,.mv,[.c (.int .i64 17)]⟩])
 .ret)
 .skip))
 (.seq (.reg [
 ⟨none,some 106,false,.mv,[.t 13]⟩,
 ⟨none,some 107,false,.iadr 1,[.t 106,.c (.int .i64 3)]⟩,
 ⟨none,some 108,false,.ld 1 false,[.t 107]⟩,
 ⟨none,some 109,false,.call Fn.q46,[.t 108]⟩,
 ⟨none,some 105,false,.mv,[.t 109]⟩,
 ⟨none,some 110,false,.ext 0,[.t 105]⟩,
 ⟨none,some 111,false,.ext 1,[.t 105]⟩,
 ⟨none,some 14,false,.mv,[.t 110]⟩,
 ⟨none,some 15,true,.mv,[.t 111]⟩])
 (.seq (.blk 2 (.seq (.reg [
 ⟨none,some 113,false,.mv,[.t 13]⟩,
 ⟨none,some 114,false,.iadr 1,[.t 113,.c (.int .i64 0)]⟩,
 ⟨none,some 115,false,.ld 1 false,[.t 114]⟩,
 ⟨none,some 116,false,.bin .eql,[.t 115,.c (.str [112,97,112,101,114])]⟩,
 ⟨none,some 117,false,.mv,[.t 116]⟩,
 ⟨some (117,true),some 118,false,.mv,[.t 10]⟩,
 ⟨some (117,true),some 119,false,.bin .eql,[.t 118,.c (.int .i64 0)]⟩,
 ⟨none,some 120,false,.pick,[.t 117,.t 119,.c (.bool false)]⟩,
 ⟨none,some 112,false,.mv,[.t 120]⟩])
 (.ite (.t 112)
 (.reg [
 ⟨none,some 121,false,.mv,[.t 9]⟩,
 ⟨none,some 122,false,.bin .add,[.t 121,.c (.int .i64 1)]⟩,
 ⟨none,some 9,true,.mv,[.t 122]⟩])
 (.seq (.reg [
 ⟨none,some 124,false,.mv,[.t 13]⟩,
 ⟨none,some 125,false,.iadr 1,[.t 124,.c (.int .i64 0)]⟩,
 ⟨none,some 126,false,.ld 1 false,[.t 125]⟩,
 ⟨none,some 127,false,.bin .eql,[.t 126,.c (.str [115,111,117,114,99,101])]⟩,
 ⟨none,some 123,false,.mv,[.t 127]⟩])
 (.ite (.t 123)
 (.seq (.seq (.reg [
 ⟨none,some 128,false,.mv,[.t 10]⟩,
 ⟨none,some 129,false,.bin .eql,[.t 128,.c (.int .i64 0)]⟩])
 (.ite (.t 129)
 (.reg [
 ⟨none,some 11,true,.mv,[.c (.str [])]⟩])
 .skip))
 (.reg [
 ⟨none,some 130,false,.mv,[.t 10]⟩,
 ⟨none,some 131,false,.bin .add,[.t 130,.c (.int .i64 1)]⟩,
 ⟨none,some 10,true,.mv,[.t 131]⟩]))
 (.reg [
 ⟨none,some 15,true,.mv,[.c (.int .i64 17)]⟩]))))))
 (.seq (.seq (.reg [
 ⟨none,some 132,false,.mv,[.t 15]⟩,
 ⟨none,some 133,false,.bin .neq,[.t 132,.c (.int .i64 0)]⟩,
 ⟨none,some 134,false,.mv,[.t 133]⟩,
 ⟨some (134,false),some 135,false,.mv,[.t 13]⟩,
 ⟨some (134,false),some 136,false,.iadr 1,[.t 135,.c (.int .i64 1)]⟩,
 ⟨some (134,false),some 137,false,.ld 1 false,[.t 136]⟩,
 ⟨some (134,false),some 138,false,.mv,[.t 11]⟩,
 ⟨some (134,false),some 139,false,.bin .leq,[.t 137,.t 138]⟩,
 ⟨none,some 140,false,.pick,[.t 134,.c (.bool true),.t 139]⟩])
 (.ite (.t 140)
 (.seq (.reg [
 ⟨none,some 2,true,.mv,[.c (.str [])]⟩,
 ⟨none,some 3,true,.mv,[.c (.str [])]⟩,
 ⟨none,some 4,true,.mv,[.c (.int .i64 17)]⟩])
 .ret)
 .skip))
 (.reg [
 ⟨none,some 141,false,.mv,[.t 13]⟩,
 ⟨none,some 142,false,.iadr 1,[.t 141,.c (.int .i64 1)]⟩,
 ⟨none,some 143,false,.ld 1 false,[.t 142]⟩,
 ⟨none,some 11,true,.mv,[.t 143]⟩])))))))
 (.reg [
 ⟨none,some 82,false,.mv,[.t 12]⟩,
 ⟨none,some 83,false,.bin .add,[.t 82,.c (.int .i64 1)]⟩,
 ⟨none,some 12,true,.mv,[.t 83]⟩])))
def Mc.q56 : MC := (.seq (.reg [
 ⟨none,some 2,true,.mv,[.c (.str [])]⟩,
 ⟨none,some 3,true,.mv,[.c (.str [])]⟩,
 ⟨none,some 4,true,.mv,[.c (.int .i64 0)]⟩])
 (.seq (.reg [
 ⟨none,some 17,false,.mv,[.t 0]⟩,
 ⟨none,some 18,false,.call Fn.q45,[.t 17]⟩,
 ⟨none,some 16,false,.mv,[.t 18]⟩,
 ⟨none,some 19,false,.ext 0,[.t 16]⟩,
 ⟨none,some 20,false,.ext 1,[.t 16]⟩,
 ⟨none,some 5,true,.mv,[.t 19]⟩,
 ⟨none,some 6,true,.mv,[.t 20]⟩])
 (.seq (.seq (.reg [
 ⟨none,some 21,false,.mv,[.t 6]⟩,
 ⟨none,some 22,false,.un .not,[.t 21]⟩,
 ⟨none,some 23,false,.mv,[.t 22]⟩,
 ⟨some (23,false),some 24,false,.mv,[.t 5]⟩,
 ⟨some (23,false),some 25,false,.len 1,[.t 24]⟩,
 ⟨some (23,false),some 26,false,.bin .lss,[.t 25,.c (.int .i64 2)]⟩,
 ⟨none,some 27,false,.pick,[.t 23,.c (.bool true),.t 26]⟩,
 ⟨none,some 28,false,.mv,[.t 27]⟩,
 ⟨some (28,false),some 29,false,.mv,[.t 5]⟩,
 ⟨some (28,false),some 30,false,.iadr 1,[.t 29,.c (.int .i64 0)]⟩,
 ⟨some (28,false),some 31,false,.ld 1 false,[.t 30]⟩,
 ⟨some (28,false),some 32,false,.len 1,[.t 31]⟩,
 ⟨some (28,false),some 33,false,.bin .neq,[.t 32,.c (.int .i64 2)]⟩,
 ⟨none,some 34,false,.pick,[.t 28,.c (.bool true),.t 33]⟩,
 ⟨none,some 35,false,.mv,[.t 34]⟩,
 ⟨some (35,false),some 36,false,.mv,[.t 5]⟩,
 ⟨some (35,false),some 37,false,.iadr 1,[.t 36,.c (.int .i64 0)]⟩,
 ⟨some (35,false),some 38,false,.ld 1 false,[.t 37]⟩,
 ⟨some (35,false),some 39,false,.iadr 1,[.t 38,.c (.int .i64 0)]⟩,
 ⟨some (35,false),some 40,false,.ld 1 false,[.t 39]⟩,
 ⟨some (35,false),some 41,false,.bin .neq,[.t 40,.c (.str [111,117,116,112,117,116])]⟩,
 ⟨none,some 42,false,.pick,[.t 35,.c (.bool true),.t 41]⟩,
 ⟨none,some 43,false,.mv,[.t 42]⟩,
 ⟨some (43,false),some 44,false,.mv,[.t 5]⟩,
 ⟨some (43,false),some 45,false,.iadr 1,[.t 44,.c (.int .i64 0)]⟩,
 ⟨some (43,false),some 46,false,.ld 1 false,[.t 45]⟩,
 ⟨some (43,false),some 47,false,.iadr 1,[.t 46,.c (.int .i64 1)]⟩,
 ⟨some (43,false),some 48,false,.ld 1 false,[.t 47]⟩,
 ⟨some (43,false),some 49,false,.call Fn.q57,[.t 48]⟩,
 ⟨some (43,false),some 50,false,.bin .neq,[.t 49,.c (.int .i64 0)]⟩,
 ⟨none,some 51,false,.pick,[.t 43,.c (.bool true),.t 50]⟩,
 ⟨none,some 52,false,.mv,[.t 51]⟩,
 ⟨some (52,false),some 53,false,.mv,[.t 5]⟩,
 ⟨some (52,false),some 54,false,.iadr 1,[.t 53,.c (.int .i64 1)]⟩,
 ⟨some (52,false),some 55,false,.ld 1 false,[.t 54]⟩,
 ⟨some (52,false),some 56,false,.len 1,[.t 55]⟩,
 ⟨some (52,false),some 57,false,.bin .neq,[.t 56,.c (.int .i64 2)]⟩,
 ⟨none,some 58,false,.pick,[.t 52,.c (.bool true),.t 57]⟩,
 ⟨none,some 59,false,.mv,[.t 58]⟩,
 ⟨some (59,false),some 60,false,.mv,[.t 5]⟩,
 ⟨some (59,false),some 61,false,.iadr 1,[.t 60,.c (.int .i64 1)]⟩,
 ⟨some (59,false),some 62,false,.ld 1 false,[.t 61]⟩,
 ⟨some (59,false),some 63,false,.iadr 1,[.t 62,.c (.int .i64 0)]⟩,
 ⟨some (59,false),some 64,false,.ld 1 false,[.t 63]⟩,
 ⟨some (59,false),some 65,false,.bin .neq,[.t 64,.c (.str [98,105,110,97,114,121])]⟩,
 ⟨none,some 66,false,.pick,[.t 59,.c (.bool true),.t 65]⟩])
 (.ite (.t 66)
 (.seq (.reg [
 ⟨none,some 2,true,.mv,[.c (.str [])]⟩,
 ⟨none,some 3,true,.mv,[.c (.str [])]⟩,
 ⟨none,some 4,true,.mv,[.c (.int .i64 17)]⟩])
 .ret)
 .skip))
 (.seq (.seq (.reg [
 ⟨none,some 68,false,.mv,[.t 5]⟩,
 ⟨none,some 69,false,.iadr 1,[.t 68,.c (.int .i64 1)]⟩,
 ⟨none,some 70,false,.ld 1 false,[.t 69]⟩,
 ⟨none,some 71,false,.iadr 1,[.t 70,.c (.int .i64 1)]⟩,
 ⟨none,some 72,false,.ld 1 false,[.t 71]⟩,
 ⟨none,some 73,false,.call Fn.q46,[.t 72]⟩,
 ⟨none,some 67,false,.mv,[.t 73]⟩,
 ⟨none,some 74,false,.ext 0,[.t 67]⟩,
 ⟨none,some 75,false,.ext 1,[.t 67]⟩,
 ⟨none,some 7,false,.mv,[.t 74]⟩,
 ⟨none,some 8,true,.mv,[.t 75]⟩])
 (.seq (.reg [
 ⟨none,some 76,false,.mv,[.t 8]⟩,
 ⟨none,some 77,false,.bin .neq,[.t 76,.c (.int .i64 0)]⟩])
 (.ite (.t 77)
 (.seq (.reg [
 ⟨none,some 2,true,.mv,[.c (.str [])]⟩,
 ⟨none,some 3,true,.mv,[.c (.str [])]⟩,
 ⟨none,some 4,true,.mv,[.c (.int .i64 17)]⟩])
 .ret)
 .skip)))
 (.seq (.reg [
 ⟨none,some 9,true,.mv,[.c (.int .i64 0)]⟩,
 ⟨none,some 10,true,.mv,[.c (.int .i64 0)]⟩,
 ⟨none,some 11,true,.mv,[.c (.str [])]⟩])
 (.seq (.seq (.reg [
 ⟨none,some 12,true,.mv,[.c (.int .i64 2)]⟩])
 (.blk 0 (.loop [13,15] Mc.q56_L0)))
 (.seq (.seq (.reg [
 ⟨none,some 144,false,.mv,[.t 9]⟩,
 ⟨none,some 145,false,.bin .gtr,[.t 144,.c (.int .i64 64)]⟩,
 ⟨none,some 146,false,.mv,[.t 145]⟩,
 ⟨some (146,false),some 147,false,.mv,[.t 10]⟩,
 ⟨some (146,false),some 148,false,.bin .gtr,[.t 147,.c (.int .i64 64)]⟩,
 ⟨none,some 149,false,.pick,[.t 146,.c (.bool true),.t 148]⟩])
 (.ite (.t 149)
 (.seq (.reg [
 ⟨none,some 2,true,.mv,[.c (.str [])]⟩,
 ⟨none,some 3,true,.mv,[.c (.str [])]⟩,
 ⟨none,some 4,true,.mv,[.c (.int .i64 17)]⟩])
 .ret)
 .skip))
 (.seq (.rgd [
 ⟨none,some 150,false,.mv,[.t 5]⟩,
 ⟨none,some 151,false,.iadr 1,[.t 150,.c (.int .i64 0)]⟩,
 ⟨none,some 152,false,.ld 1 false,[.t 151]⟩,
 ⟨none,some 153,false,.iadr 1,[.t 152,.c (.int .i64 1)]⟩,
 ⟨none,some 154,false,.ld 1 false,[.t 153]⟩,
 ⟨none,some 155,false,.mv,[.t 5]⟩,
 ⟨none,some 156,false,.iadr 1,[.t 155,.c (.int .i64 1)]⟩,
 ⟨none,some 157,false,.ld 1 false,[.t 156]⟩,
 ⟨none,some 158,false,.iadr 1,[.t 157,.c (.int .i64 1)]⟩,
 ⟨none,some 159,false,.ld 1 false,[.t 158]⟩,
 ⟨none,some 2,true,.mv,[.t 154]⟩,
 ⟨none,some 3,true,.mv,[.t 159]⟩,
 ⟨none,some 4,true,.mv,[.c (.int .i64 0)]⟩])
 .ret))))))))
def Ks.tree_Check : List Nat := [0,2,3,4,8,9,10]
def Rs.tree_Check : List RV := [.tmp 2]
def Dl.tree_Check : List (List Nat) := [[3,4]]
def Mc.tree_Check_L0 : MC := (.seq (.reg [
 ⟨none,some 11,false,.bin .lss,[.t 10,.t 9]⟩])
 (.seq (.ite (.t 11)
 .skip
 (.exit 0))
 (.seq (.blk 1 (.seq (.reg [
 ⟨none,some 12,false,.mv,[.t 10]⟩,
 ⟨none,some 13,false,.iadr 2,[.t 8,.t 10]⟩,
 ⟨none,some 14,false,.ld 2 true,[.t 13]⟩,
 ⟨none,some 4,true,.alloc [.str [],.str []],[]⟩,
 ⟨none,some 3,true,.mv,[.t 12]⟩,
 ⟨none,none,false,.st 2,[.t 4,.t 14]⟩])
 (.blk 2 (.seq (.reg [
 ⟨none,some 16,false,.fadr 0,[.t 4]⟩,
 ⟨none,some 17,false,.ld 1 false,[.t 16]⟩,
 ⟨none,some 18,false,.call Fn.tree_Path,[.t 17]⟩,
 ⟨none,some 19,false,.bin .neq,[.t 18,.c (.int .i64 0)]⟩,
 ⟨none,some 15,false,.mv,[.t 19]⟩])
 (.ite (.t 15)
 (.seq (.reg [
 ⟨none,some 2,true,.mv,[.c (.int .i64 2)]⟩])
 .ret)
 (.seq (.reg [
 ⟨none,some 21,false,.fadr 1,[.t 4]⟩,
 ⟨none,some 22,false,.ld 1 false,[.t 21]⟩,
 ⟨none,some 23,false,.len 0,[.t 22]⟩,
 ⟨none,some 24,false,.bin .gtr,[.t 23,.c (.int .i64 65536)]⟩,
 ⟨none,some 20,false,.mv,[.t 24]⟩])
 (.ite (.t 20)
 (.seq (.reg [
 ⟨none,some 2,true,.mv,[.c (.int .i64 10)]⟩])
 .ret)
 (.seq (.rgd [
 ⟨none,some 26,false,.mv,[.t 3]⟩,
 ⟨none,some 27,false,.bin .gtr,[.t 26,.c (.int .i64 0)]⟩,
 ⟨none,some 28,false,.mv,[.t 27]⟩,
 ⟨some (28,true),some 29,false,.mv,[.t 0]⟩,
 ⟨some (28,true),some 30,false,.mv,[.t 3]⟩,
 ⟨some (28,true),some 31,false,.bin .sub,[.t 30,.c (.int .i64 1)]⟩,
 ⟨some (28,true),some 32,false,.iadr 2,[.t 29,.t 31]⟩,
 ⟨some (28,true),some 33,false,.fadr 0,[.t 32]⟩,
 ⟨some (28,true),some 34,false,.ld 1 false,[.t 33]⟩,
 ⟨some (28,true),some 35,false,.fadr 0,[.t 4]⟩,
 ⟨some (28,true),some 36,false,.ld 1 false,[.t 35]⟩,
 ⟨some (28,true),some 37,false,.bin .geq,[.t 34,.t 36]⟩,
 ⟨none,some 38,false,.pick,[.t 28,.t 37,.c (.bool false)]⟩,
 ⟨none,some 25,false,.mv,[.t 38]⟩])
 (.ite (.t 25)
 (.seq (.reg [
 ⟨none,some 2,true,.mv,[.c (.int .i64 5)]⟩])
 .ret)
 (.seq (.reg [
 ⟨none,some 40,false,.mv,[.t 0]⟩,
 ⟨none,some 41,false,.mv,[.t 3]⟩,
 ⟨none,some 42,false,.slc (some 2) false true false,[.t 40,.t 41]⟩,
 ⟨none,some 43,false,.mkfn Fn.q71,[.t 4]⟩,
 ⟨none,some 44,false,.call Fn.q9,[.t 42,.t 43]⟩,
 ⟨none,some 39,false,.mv,[.t 44]⟩])
 (.ite (.t 39)
 (.seq (.reg [
 ⟨none,some 2,true,.mv,[.c (.int .i64 6)]⟩])
 .ret)
 .skip)))))))))))
 (.reg [
 ⟨none,some 45,false,.bin .add,[.t 10,.c (.int .i64 1)]⟩,
 ⟨none,some 10,true,.mv,[.t 45]⟩]))))
def Mc.tree_Check : MC := (.seq (.reg [
 ⟨none,some 2,true,.mv,[.c (.int .i64 0)]⟩])
 (.seq (.seq (.reg [
 ⟨none,some 5,false,.mv,[.t 0]⟩,
 ⟨none,some 6,false,.len 1,[.t 5]⟩,
 ⟨none,some 7,false,.bin .gtr,[.t 6,.c (.int .i64 64)]⟩])
 (.ite (.t 7)
 (.seq (.reg [
 ⟨none,some 2,true,.mv,[.c (.int .i64 10)]⟩])
 .ret)
 .skip))
 (.seq (.seq (.reg [
 ⟨none,some 8,true,.mv,[.t 0]⟩,
 ⟨none,some 9,true,.len 1,[.t 8]⟩,
 ⟨none,some 10,true,.mv,[.c (.int .i64 0)]⟩])
 (.blk 0 (.loop [3,4] Mc.tree_Check_L0)))
 (.seq (.reg [
 ⟨none,some 2,true,.mv,[.c (.int .i64 0)]⟩])
 .ret))))
def Ks.q33 : List Nat := [0,1,4,5,6,7,8]
def Rs.q33 : List RV := [.tmp 4]
def Dl.q33 : List (List Nat) := []
def Mc.q33 : MC := (.seq (.reg [
 ⟨none,some 4,true,.mv,[.c (.str [])]⟩])
 (.seq (.seq (.reg [
 ⟨none,some 9,false,.mv,[.t 0]⟩,
 ⟨none,some 10,false,.nilck,[.t 9]⟩,
 ⟨none,some 11,false,.fadr 1,[.t 10]⟩,
 ⟨none,some 12,false,.ld 1 false,[.t 11]⟩,
 ⟨none,some 13,false,.bin .neq,[.t 12,.c (.int .i64 0)]⟩])
 (.ite (.t 13)
 (.seq (.reg [
 ⟨none,some 4,true,.mv,[.c (.str [])]⟩])
 .ret)
 .skip))
 (.seq (.reg [
 ⟨none,some 15,false,.mv,[.t 0]⟩,
 ⟨none,some 16,false,.call Fn.q32,[.t 15,.c (.int .i64 65536),.c (.int .u8 58)]⟩,
 ⟨none,some 14,false,.mv,[.t 16]⟩,
 ⟨none,some 17,false,.ext 0,[.t 14]⟩,
 ⟨none,some 18,false,.ext 1,[.t 14]⟩,
 ⟨none,some 19,false,.ext 2,[.t 14]⟩,
 ⟨none,some 5,true,.mv,[.t 17]⟩,
 ⟨none,some 6,true,.mv,[.t 18]⟩,
 ⟨none,some 7,true,.mv,[.t 19]⟩])
 (.seq (.blk 0 (.seq (.reg [
 ⟨none,some 21,false,.mv,[.t 7]⟩,
 ⟨none,some 22,false,.bin .neq,[.t 21,.c (.int .i64 0)]⟩,
 ⟨none,some 20,false,.mv,[.t 22]⟩])
 (.ite (.t 20)
 .skip
 (.seq (.reg [
 ⟨none,some 24,false,.mv,[.t 0]⟩,
 ⟨none,some 25,false,.nilck,[.t 24]⟩,
 ⟨none,some 26,false,.fadr 0,[.t 25]⟩,
 ⟨none,some 27,false,.ld 1 false,[.t 26]⟩,
 ⟨none,some 28,false,.len 0,[.t 27]⟩,
 ⟨none,some 29,false,.mv,[.t 6]⟩,
 ⟨none,some 30,false,.mv,[.t 5]⟩,
 ⟨none,some 31,false,.bin .add,[.t 29,.t 30]⟩,
 ⟨none,some 32,false,.bin .leq,[.t 28,.t 31]⟩,
 ⟨none,some 23,false,.mv,[.t 32]⟩])
 (.ite (.t 23)
 (.reg [
 ⟨none,some 7,true,.mv,[.c (.int .i64 13)]⟩])
 (.seq (.reg [
 ⟨none,some 34,false,.mv,[.t 0]⟩,
 ⟨none,some 35,false,.nilck,[.t 34]⟩,
 ⟨none,some 36,false,.fadr 0,[.t 35]⟩,
 ⟨none,some 37,false,.ld 1 false,[.t 36]⟩,
 ⟨none,some 38,false,.mv,[.t 6]⟩,
 ⟨none,some 39,false,.mv,[.t 5]⟩,
 ⟨none,some 40,false,.bin .add,[.t 38,.t 39]⟩,
 ⟨none,some 41,false,.istr,[.t 37,.t 40]⟩,
 ⟨none,some 42,false,.bin .neq,[.t 41,.c (.int .u8 44)]⟩,
 ⟨none,some 33,false,.mv,[.t 42]⟩])
 (.ite (.t 33)
 (.reg [
 ⟨none,some 7,true,.mv,[.c (.int .i64 17)]⟩])
 (.seq (.reg [
 ⟨none,some 44,false,.mv,[.t 5]⟩,
 ⟨none,some 45,false,.mv,[.t 1]⟩,
 ⟨none,some 46,false,.bin .gtr,[.t 44,.t 45]⟩,
 ⟨none,some 43,false,.mv,[.t 46]⟩])
 (.ite (.t 43)
 (.reg [
 ⟨none,some 7,true,.mv,[.c (.int .i64 10)]⟩])
 .skip)))))))))
 (.seq (.seq (.reg [
 ⟨none,some 47,false,.mv,[.t 7]⟩,
 ⟨none,some 48,false,.bin .neq,[.t 47,.c (.int .i64 0)]⟩])
 (.ite (.t 48)
 (.seq (.reg [
 ⟨none,some 49,false,.mv,[.t 0]⟩,
 ⟨none,some 50,false,.mv,[.t 7]⟩,
 ⟨none,some 51,false,.call Fn.q34,[.t 49,.t 50]⟩])
 (.seq (.reg [
 ⟨none,some 4,true,.mv,[.c (.str [])]⟩])
 .ret))
 .skip))
 (.seq (.reg [
 ⟨none,some 52,false,.mv,[.t 0]⟩,
 ⟨none,some 53,false,.nilck,[.t 52]⟩,
 ⟨none,some 54,false,.fadr 0,[.t 53]⟩,
 ⟨none,some 55,false,.ld 1 false,[.t 54]⟩,
 ⟨none,some 56,false,.mv,[.t 6]⟩,
 ⟨none,some 57,false,.mv,[.t 6]⟩,
 ⟨none,some 58,false,.mv,[.t 5]⟩,
 ⟨none,some 59,false,.bin .add,[.t 57,.t 58]⟩,
 ⟨none,some 60,false,.slc none true true false,[.t 55,.t 56,.t 59]⟩,
 ⟨none,some 61,false,.call Fn.q64,[.t 60]⟩,
 ⟨none,some 8,true,.mv,[.t 61]⟩])
 (.seq (.reg [
 ⟨none,some 62,false,.mv,[.t 0]⟩,
 ⟨none,some 63,false,.mv,[.t 0]⟩,
 ⟨none,some 64,false,.nilck,[.t 63]⟩,
 ⟨none,some 65,false,.fadr 0,[.t 64]⟩,
 ⟨none,some 66,false,.ld 1 false,[.t 65]⟩,
 ⟨none,some 67,false,.mv,[.t 6]⟩,
 ⟨none,some 68,false,.mv,[.t 5]⟩,
 ⟨none,some 69,false,.bin .add,[.t 67,.t 68]⟩,
 ⟨none,some 70,false,.bin .add,[.t 69,.c (.int .i64 1)]⟩,
 ⟨none,some 71,false,.slc none true false false,[.t 66,.t 70]⟩,
 ⟨none,some 72,false,.nilck,[.t 62]⟩,
 ⟨none,some 73,false,.fadr 0,[.t 72]⟩,
 ⟨none,none,false,.st 1,[.t 73,.t 71]⟩])
 (.seq (.reg [
 ⟨none,some 74,false,.mv,[.t 8]⟩,
 ⟨none,some 4,true,.mv,[.t 74]⟩])
 .ret))))))))
def Ks.q68 : List Nat := [0,2,3,4,6,7]
def Rs.q68 : List RV := [.tmp 2]
def Dl.q68 : List (List Nat) := [[4]]
def Mc.q68_L0 : MC := (.seq (.reg [
 ⟨none,some 8,false,.bin .lss,[.t 7,.t 6]⟩])
 (.seq (.ite (.t 8)
 .skip
 (.exit 0))
 (.seq (.blk 1 (.seq (.reg [
 ⟨none,some 9,false,.mv,[.t 0]⟩,
 ⟨none,some 10,false,.call Fn.q33,[.t 9,.c (.int .i64 128)]⟩,
 ⟨none,some 11,false,.bld [.str [],.str []] [(0,1)],[.t 10]⟩,
 ⟨none,some 4,true,.alloc [.str [],.str []],[]⟩,
 ⟨none,none,false,.st 2,[.t 4,.t 11]⟩])
 (.seq (.reg [
 ⟨none,some 12,false,.mv,[.t 0]⟩,
 ⟨none,some 13,false,.call Fn.q33,[.t 12,.c (.int .i64 65536)]⟩,
 ⟨none,some 14,false,.fadr 1,[.t 4]⟩,
 ⟨none,none,false,.st 1,[.t 14,.t 13]⟩])
 (.reg [
 ⟨none,some 15,false,.mv,[.t 3]⟩,
 ⟨none,some 16,false,.ld 2 true,[.t 4]⟩,
 ⟨none,some 17,false,.bsl false 2,[.t 16]⟩,
 ⟨none,some 18,false,.app false 2 32,[.t 15,.t 17]⟩,
 ⟨none,some 3,true,.mv,[.t 18]⟩]))))
 (.reg [
 ⟨none,some 19,false,.bin .add,[.t 7,.c (.int .i64 1)]⟩,
 ⟨none,some 7,true,.mv,[.t 19]⟩]))))
def Mc.q68 : MC := (.seq (.reg [
 ⟨none,some 2,true,.newnil 2,[]⟩])
 (.seq (.reg [
 ⟨none,some 3,true,.newnil 2,[]⟩])
 (.seq (.seq (.reg [
 ⟨none,some 5,false,.mv,[.t 0]⟩,
 ⟨none,some 6,true,.call Fn.q26,[.t 5,.c (.int .i64 0),.c (.int .i64 64)]⟩,
 ⟨none,some 7,true,.mv,[.c (.int .i64 0)]⟩])
 (.blk 0 (.loop [4] Mc.q68_L0)))
 (.seq (.reg [
 ⟨none,some 20,false,.mv,[.t 3]⟩,
 ⟨none,some 2,true,.mv,[.t 20]⟩])
 .ret))))
def Ks.q39 : List Nat := [0,2,3,4,5,6]
def Rs.q39 : List RV := [.tmp 2]
def Dl.q39 : List (List Nat) := [[6]]
def Mc.q39_L0 : MC := (.seq (.seq (.reg [
 ⟨none,some 9,false,.mv,[.t 5]⟩,
 ⟨none,some 10,false,.mv,[.t 4]⟩,
 ⟨none,some 11,false,.bin .lss,[.t 9,.t 10]⟩,
 ⟨none,some 12,false,.mv,[.t 11]⟩,
 ⟨some (12,true),some 13,false,.mv,[.t 0]⟩,
 ⟨some (12,true),some 14,false,.nilck,[.t 13]⟩,
 ⟨some (12,true),some 15,false,.fadr 1,[.t 14]⟩,
 ⟨some (12,true),some 16,false,.ld 1 false,[.t 15]⟩,
 ⟨some (12,true),some 17,false,.bin .eql,[.t 16,.c (.int .i64 0)]⟩,
 ⟨none,some 18,false,.pick,[.t 12,.t 17,.c (.bool false)]⟩])
 (.ite (.t 18)
 .skip
 (.exit 0)))
 (.seq (.blk 1 (.seq (.reg [
 ⟨none,some 21,false,.mv,[.t 0]⟩,
 ⟨none,some 22,false,.call Fn.q19,[.t 21,.c (.int .i64 128)]⟩,
 ⟨none,some 6,true,.mv,[.t 22]⟩])
 (.reg [
 ⟨none,some 23,false,.mv,[.t 3]⟩,
 ⟨none,some 24,false,.mv,[.t 6]⟩,
 ⟨none,some 25,false,.mv,[.t 0]⟩,
 ⟨none,some 26,false,.call Fn.q19,[.t 25,.c (.int .i64 65536)]⟩,
 ⟨none,some 27,false,.bld [.str [],.str []] [(0,1),(1,1)],[.t 24,.t 26]⟩,
 ⟨none,some 28,false,.bsl false 2,[.t 27]⟩,
 ⟨none,some 29,false,.app false 2 32,[.t 23,.t 28]⟩,
 ⟨none,some 3,true,.mv,[.t 29]⟩])))
 (.reg [
 ⟨none,some 19,false,.mv,[.t 5]⟩,
 ⟨none,some 20,false,.bin .add,[.t 19,.c (.int .i64 1)]⟩,
 ⟨none,some 5,true,.mv,[.t 20]⟩])))
def Mc.q39 : MC := (.seq (.reg [
 ⟨none,some 2,true,.newnil 2,[]⟩])
 (.seq (.reg [
 ⟨none,some 3,true,.newnil 2,[]⟩])
 (.seq (.reg [
 ⟨none,some 7,false,.mv,[.t 0]⟩,
 ⟨none,some 8,false,.call Fn.q17,[.t 7,.c (.int .i64 0),.c (.int .i64 64)]⟩,
 ⟨none,some 4,true,.mv,[.t 8]⟩])
 (.seq (.seq (.reg [
 ⟨none,some 5,true,.mv,[.c (.int .i64 0)]⟩])
 (.blk 0 (.loop [6] Mc.q39_L0)))
 (.seq (.reg [
 ⟨none,some 30,false,.mv,[.t 3]⟩,
 ⟨none,some 2,true,.mv,[.t 30]⟩])
 .ret)))))
def Ks.bundle_rows : List Nat := [0,2,3,4,5,6,7,8]
def Rs.bundle_rows : List RV := [.tmp 2,.tmp 3]
def Dl.bundle_rows : List (List Nat) := [[5,6,7,8]]
def Mc.bundle_rows_L0 : MC := (.seq (.seq (.reg [
 ⟨none,some 9,false,.mv,[.t 0]⟩,
 ⟨none,some 10,false,.bin .neq,[.t 9,.c (.str [])]⟩])
 (.ite (.t 10)
 .skip
 (.exit 0)))
 (.blk 1 (.seq (.reg [
 ⟨none,some 12,false,.mv,[.t 0]⟩,
 ⟨none,some 13,false,.call Fn.strings_Cut,[.t 12,.c (.str [10])]⟩,
 ⟨none,some 11,false,.mv,[.t 13]⟩,
 ⟨none,some 14,false,.ext 0,[.t 11]⟩,
 ⟨none,some 15,false,.ext 1,[.t 11]⟩,
 ⟨none,some 16,false,.ext 2,[.t 11]⟩,
 ⟨none,some 5,true,.mv,[.t 14]⟩,
 ⟨none,some 6,true,.mv,[.t 15]⟩,
 ⟨none,some 7,true,.mv,[.t 16]⟩])
 (.seq (.reg [
 ⟨none,some 17,false,.mv,[.t 5]⟩,
 ⟨none,some 18,false,.call Fn.q65,[.t 17,.c (.str [32])]⟩,
 ⟨none,some 8,true,.mv,[.t 18]⟩])
 (.seq (.seq (.reg [
 ⟨none,some 19,false,.mv,[.t 7]⟩,
 ⟨none,some 20,false,.un .not,[.t 19]⟩,
 ⟨none,some 21,false,.mv,[.t 20]⟩,
 ⟨some (21,false),some 22,false,.mv,[.t 8]⟩,
 ⟨some (21,false),some 23,false,.call Fn.q14,[.t 22,.c (.str [])]⟩,
 ⟨none,some 24,false,.pick,[.t 21,.c (.bool true),.t 23]⟩])
 (.ite (.t 24)
 (.seq (.reg [
 ⟨none,some 2,true,.newnil 1,[]⟩,
 ⟨none,some 3,true,.mv,[.c (.bool false)]⟩])
 .ret)
 .skip))
 (.seq (.reg [
 ⟨none,some 25,false,.mv,[.t 4]⟩,
 ⟨none,some 26,false,.mv,[.t 8]⟩,
 ⟨none,some 27,false,.bsl false 1,[.t 26]⟩,
 ⟨none,some 28,false,.app false 1 24,[.t 25,.t 27]⟩,
 ⟨none,some 4,true,.mv,[.t 28]⟩])
 (.reg [
 ⟨none,some 29,false,.mv,[.t 6]⟩,
 ⟨none,some 0,true,.mv,[.t 29]⟩])))))))
def Mc.bundle_rows : MC := (.seq (.reg [
 ⟨none,some 2,true,.newnil 1,[]⟩,
 ⟨none,some 3,true,.mv,[.c (.bool false)]⟩])
 (.seq (.reg [
 ⟨none,some 4,true,.newnil 1,[]⟩])
 (.seq (.blk 0 (.loop [5,6,7,8] Mc.bundle_rows_L0))
 (.seq (.reg [
 ⟨none,some 30,false,.mv,[.t 4]⟩,
 ⟨none,some 2,true,.mv,[.t 30]⟩,
 ⟨none,some 3,true,.mv,[.c (.bool true)]⟩])
 .ret))))
def Ks.q45 : List Nat := [0,2,3,4,5,6,7]
def Rs.q45 : List RV := [.tmp 2,.tmp 3]
def Dl.q45 : List (List Nat) := [[7]]
def Mc.q45_L0 : MC := (.seq (.seq (.reg [
 ⟨none,some 10,false,.mv,[.t 6]⟩,
 ⟨none,some 11,false,.bin .add,[.t 10,.c (.int .i64 1)]⟩,
 ⟨none,some 12,false,.mv,[.t 4]⟩,
 ⟨none,some 13,false,.len 1,[.t 12]⟩,
 ⟨none,some 14,false,.bin .lss,[.t 11,.t 13]⟩])
 (.ite (.t 14)
 .skip
 (.exit 0)))
 (.seq (.blk 1 (.seq (.reg [
 ⟨none,some 17,false,.mv,[.t 4]⟩,
 ⟨none,some 18,false,.mv,[.t 6]⟩,
 ⟨none,some 19,false,.iadr 1,[.t 17,.t 18]⟩,
 ⟨none,some 20,false,.ld 1 false,[.t 19]⟩,
 ⟨none,some 21,false,.call Fn.q49,[.t 20,.c (.int .u8 32)]⟩,
 ⟨none,some 7,true,.mv,[.t 21]⟩])
 (.seq (.seq (.reg [
 ⟨none,some 22,false,.mv,[.t 7]⟩,
 ⟨none,some 23,false,.call Fn.q61,[.t 22,.c (.str [])]⟩])
 (.ite (.t 23)
 (.seq (.reg [
 ⟨none,some 2,true,.newnil 1,[]⟩,
 ⟨none,some 3,true,.mv,[.c (.bool false)]⟩])
 .ret)
 .skip))
 (.reg [
 ⟨none,some 24,false,.mv,[.t 5]⟩,
 ⟨none,some 25,false,.mv,[.t 7]⟩,
 ⟨none,some 26,false,.bsl false 1,[.t 25]⟩,
 ⟨none,some 27,false,.app false 1 24,[.t 24,.t 26]⟩,
 ⟨none,some 5,true,.mv,[.t 27]⟩]))))
 (.reg [
 ⟨none,some 15,false,.mv,[.t 6]⟩,
 ⟨none,some 16,false,.bin .add,[.t 15,.c (.int .i64 1)]⟩,
 ⟨none,some 6,true,.mv,[.t 16]⟩])))
def Mc.q45 : MC := (.seq (.reg [
 ⟨none,some 2,true,.newnil 1,[]⟩,
 ⟨none,some 3,true,.mv,[.c (.bool false)]⟩])
 (.seq (.reg [
 ⟨none,some 8,false,.mv,[.t 0]⟩,
 ⟨none,some 9,false,.call Fn.q49,[.t 8,.c (.int .u8 10)]⟩,
 ⟨none,some 4,true,.mv,[.t 9]⟩])
 (.seq (.reg [
 ⟨none,some 5,true,.newnil 1,[]⟩])
 (.seq (.seq (.reg [
 ⟨none,some 6,true,.mv,[.c (.int .i64 0)]⟩])
 (.blk 0 (.loop [7] Mc.q45_L0)))
 (.seq (.rgd [
 ⟨none,some 28,false,.mv,[.t 5]⟩,
 ⟨none,some 29,false,.mv,[.t 4]⟩,
 ⟨none,some 30,false,.mv,[.t 4]⟩,
 ⟨none,some 31,false,.len 1,[.t 30]⟩,
 ⟨none,some 32,false,.bin .sub,[.t 31,.c (.int .i64 1)]⟩,
 ⟨none,some 33,false,.iadr 1,[.t 29,.t 32]⟩,
 ⟨none,some 34,false,.ld 1 false,[.t 33]⟩,
 ⟨none,some 35,false,.bin .eql,[.t 34,.c (.str [])]⟩,
 ⟨none,some 2,true,.mv,[.t 28]⟩,
 ⟨none,some 3,true,.mv,[.t 35]⟩])
 .ret)))))
def Ks.q69 : List Nat := [0,2,3,4,5,6]
def Rs.q69 : List RV := [.tmp 2,.tmp 3]
def Dl.q69 : List (List Nat) := [[6]]
def Mc.q69_L0 : MC := (.seq (.seq (.reg [
 ⟨none,some 11,false,.mv,[.t 5]⟩,
 ⟨none,some 12,false,.mv,[.t 0]⟩,
 ⟨none,some 13,false,.len 0,[.t 12]⟩,
 ⟨none,some 14,false,.bin .lss,[.t 11,.t 13]⟩])
 (.ite (.t 14)
 .skip
 (.exit 0)))
 (.seq (.blk 1 (.seq (.reg [
 ⟨none,some 17,false,.mv,[.t 0]⟩,
 ⟨none,some 18,false,.mv,[.t 5]⟩,
 ⟨none,some 19,false,.istr,[.t 17,.t 18]⟩,
 ⟨none,some 20,false,.call Fn.q40,[.c (.str [48,49,50,51,52,53,54,55,56,57,97,98,99,100,101,102]),.t 19]⟩,
 ⟨none,some 6,true,.mv,[.t 20]⟩])
 (.seq (.seq (.reg [
 ⟨none,some 21,false,.mv,[.t 6]⟩,
 ⟨none,some 22,false,.bin .lss,[.t 21,.c (.int .i64 0)]⟩])
 (.ite (.t 22)
 (.seq (.reg [
 ⟨none,some 2,true,.mv,[.c (.str [])]⟩,
 ⟨none,some 3,true,.mv,[.c (.int .i64 4)]⟩])
 .ret)
 .skip))
 (.reg [
 ⟨none,some 23,false,.mv,[.t 4]⟩,
 ⟨none,some 24,false,.mv,[.t 5]⟩,
 ⟨none,some 25,false,.bin .quo,[.t 24,.c (.int .i64 2)]⟩,
 ⟨none,some 26,false,.mv,[.t 4]⟩,
 ⟨none,some 27,false,.mv,[.t 5]⟩,
 ⟨none,some 28,false,.bin .quo,[.t 27,.c (.int .i64 2)]⟩,
 ⟨none,some 29,false,.iadr 1,[.t 26,.t 28]⟩,
 ⟨none,some 30,false,.ld 1 false,[.t 29]⟩,
 ⟨none,some 31,false,.bin .shl,[.t 30,.c (.int .u64 4)]⟩,
 ⟨none,some 32,false,.mv,[.t 6]⟩,
 ⟨none,some 33,false,.conv .u8,[.t 32]⟩,
 ⟨none,some 34,false,.bin .or,[.t 31,.t 33]⟩,
 ⟨none,some 35,false,.iadr 1,[.t 23,.t 25]⟩,
 ⟨none,none,false,.st 1,[.t 35,.t 34]⟩]))))
 (.reg [
 ⟨none,some 15,false,.mv,[.t 5]⟩,
 ⟨none,some 16,false,.bin .add,[.t 15,.c (.int .i64 1)]⟩,
 ⟨none,some 5,true,.mv,[.t 16]⟩])))
def Mc.q69 : MC := (.seq (.reg [
 ⟨none,some 2,true,.mv,[.c (.str [])]⟩,
 ⟨none,some 3,true,.mv,[.c (.int .i64 0)]⟩])
 (.seq (.seq (.reg [
 ⟨none,some 7,false,.mv,[.t 0]⟩,
 ⟨none,some 8,false,.len 0,[.t 7]⟩,
 ⟨none,some 9,false,.bin .neq,[.t 8,.c (.int .i64 64)]⟩])
 (.ite (.t 9)
 (.seq (.reg [
 ⟨none,some 2,true,.mv,[.c (.str [])]⟩,
 ⟨none,some 3,true,.mv,[.c (.int .i64 4)]⟩])
 .ret)
 .skip))
 (.seq (.reg [
 ⟨none,some 10,false,.mksl [.int .u8 0] 1,[.c (.int .i64 32),.c (.int .i64 32)]⟩,
 ⟨none,some 4,true,.mv,[.t 10]⟩])
 (.seq (.seq (.reg [
 ⟨none,some 5,true,.mv,[.c (.int .i64 0)]⟩])
 (.blk 0 (.loop [6] Mc.q69_L0)))
 (.seq (.reg [
 ⟨none,some 36,false,.mv,[.t 4]⟩,
 ⟨none,some 37,false,.b2s,[.t 36]⟩,
 ⟨none,some 2,true,.mv,[.t 37]⟩,
 ⟨none,some 3,true,.mv,[.c (.int .i64 0)]⟩])
 .ret)))))
def Ks.tree_Path : List Nat := [0,2,3]
def Rs.tree_Path : List RV := [.tmp 2]
def Dl.tree_Path : List (List Nat) := []
def Mc.tree_Path : MC := (.seq (.reg [
 ⟨none,some 2,true,.mv,[.c (.int .i64 0)]⟩])
 (.seq (.reg [
 ⟨none,some 4,false,.mv,[.t 0]⟩,
 ⟨none,some 5,false,.call Fn.q65,[.t 4,.c (.str [47])]⟩,
 ⟨none,some 3,true,.mv,[.t 5]⟩])
 (.seq (.seq (.reg [
 ⟨none,some 6,false,.mv,[.t 0]⟩,
 ⟨none,some 7,false,.len 0,[.t 6]⟩,
 ⟨none,some 8,false,.bin .gtr,[.t 7,.c (.int .i64 128)]⟩,
 ⟨none,some 9,false,.mv,[.t 8]⟩,
 ⟨some (9,false),some 10,false,.mv,[.t 3]⟩,
 ⟨some (9,false),some 11,false,.len 1,[.t 10]⟩,
 ⟨some (9,false),some 12,false,.bin .gtr,[.t 11,.c (.int .i64 8)]⟩,
 ⟨none,some 13,false,.pick,[.t 9,.c (.bool true),.t 12]⟩,
 ⟨none,some 14,false,.mv,[.t 13]⟩,
 ⟨some (14,false),some 15,false,.mv,[.t 3]⟩,
 ⟨some (14,false),some 16,false,.call Fn.q10,[.t 15,.c (.fn Fn.tree_Path_1 [])]⟩,
 ⟨none,some 17,false,.pick,[.t 14,.c (.bool true),.t 16]⟩])
 (.ite (.t 17)
 (.seq (.reg [
 ⟨none,some 2,true,.mv,[.c (.int .i64 2)]⟩])
 .ret)
 .skip))
 (.seq (.reg [
 ⟨none,some 2,true,.mv,[.c (.int .i64 0)]⟩])
 .ret))))
def Ks.bundle_file : List Nat := [0,2,3,4,6]
def Rs.bundle_file : List RV := [.tmp 2]
def Dl.bundle_file : List (List Nat) := []
def Mc.bundle_file : MC := (.seq (.reg [
 ⟨none,some 2,true,.mv,[.c (.bool false)]⟩])
 (.seq (.seq (.reg [
 ⟨none,some 7,false,.mv,[.t 0]⟩,
 ⟨none,some 8,false,.len 1,[.t 7]⟩,
 ⟨none,some 9,false,.bin .neq,[.t 8,.c (.int .i64 4)]⟩,
 ⟨none,some 10,false,.mv,[.t 9]⟩,
 ⟨some (10,false),some 11,false,.mv,[.t 0]⟩,
 ⟨some (10,false),some 12,false,.iadr 1,[.t 11,.c (.int .i64 1)]⟩,
 ⟨some (10,false),some 13,false,.ld 1 false,[.t 12]⟩,
 ⟨some (10,false),some 14,false,.call Fn.tree_Path,[.t 13]⟩,
 ⟨some (10,false),some 15,false,.bin .neq,[.t 14,.c (.int .i64 0)]⟩,
 ⟨none,some 16,false,.pick,[.t 10,.c (.bool true),.t 15]⟩])
 (.ite (.t 16)
 (.seq (.reg [
 ⟨none,some 2,true,.mv,[.c (.bool false)]⟩])
 .ret)
 .skip))
 (.seq (.reg [
 ⟨none,some 18,false,.mv,[.t 0]⟩,
 ⟨none,some 19,false,.iadr 1,[.t 18,.c (.int .i64 2)]⟩,
 ⟨none,some 20,false,.ld 1 false,[.t 19]⟩,
 ⟨none,some 21,false,.call Fn.q72,[.t 20]⟩,
 ⟨none,some 17,false,.mv,[.t 21]⟩,
 ⟨none,some 22,false,.ext 0,[.t 17]⟩,
 ⟨none,some 23,false,.ext 1,[.t 17]⟩,
 ⟨none,some 3,true,.mv,[.t 22]⟩,
 ⟨none,some 4,true,.mv,[.t 23]⟩])
 (.seq (.reg [
 ⟨none,some 25,false,.mv,[.t 0]⟩,
 ⟨none,some 26,false,.iadr 1,[.t 25,.c (.int .i64 3)]⟩,
 ⟨none,some 27,false,.ld 1 false,[.t 26]⟩,
 ⟨none,some 28,false,.call Fn.q69,[.t 27]⟩,
 ⟨none,some 24,false,.mv,[.t 28]⟩,
 ⟨none,some 29,false,.ext 0,[.t 24]⟩,
 ⟨none,some 30,false,.ext 1,[.t 24]⟩,
 ⟨none,some 5,false,.mv,[.t 29]⟩,
 ⟨none,some 6,true,.mv,[.t 30]⟩])
 (.seq (.rgd [
 ⟨none,some 31,false,.mv,[.t 4]⟩,
 ⟨none,some 32,false,.isnili false,[.t 31]⟩,
 ⟨none,some 33,false,.mv,[.t 32]⟩,
 ⟨some (33,true),some 34,false,.mv,[.t 3]⟩,
 ⟨some (33,true),some 35,false,.call Fn.q70,[.t 34]⟩,
 ⟨some (33,true),some 36,false,.mv,[.t 0]⟩,
 ⟨some (33,true),some 37,false,.iadr 1,[.t 36,.c (.int .i64 2)]⟩,
 ⟨some (33,true),some 38,false,.ld 1 false,[.t 37]⟩,
 ⟨some (33,true),some 39,false,.bin .eql,[.t 35,.t 38]⟩,
 ⟨none,some 40,false,.pick,[.t 33,.t 39,.c (.bool false)]⟩,
 ⟨none,some 41,false,.mv,[.t 40]⟩,
 ⟨some (41,true),some 42,false,.mv,[.t 3]⟩,
 ⟨some (41,true),some 43,false,.bin .geq,[.t 42,.c (.int .i64 0)]⟩,
 ⟨none,some 44,false,.pick,[.t 41,.t 43,.c (.bool false)]⟩,
 ⟨none,some 45,false,.mv,[.t 44]⟩,
 ⟨some (45,true),some 46,false,.mv,[.t 3]⟩,
 ⟨some (45,true),some 47,false,.bin .leq,[.t 46,.c (.int .i64 65536)]⟩,
 ⟨none,some 48,false,.pick,[.t 45,.t 47,.c (.bool false)]⟩,
 ⟨none,some 49,false,.mv,[.t 48]⟩,
 ⟨some (49,true),some 50,false,.mv,[.t 6]⟩,
 ⟨some (49,true),some 51,false,.bin .eql,[.t 50,.c (.int .i64 0)]⟩,
 ⟨none,some 52,false,.pick,[.t 49,.t 51,.c (.bool false)]⟩,
 ⟨none,some 2,true,.mv,[.t 52]⟩])
 .ret)))))
def Ks.q57 : List Nat := [0,2,3,5,14,15,16]
def Rs.q57 : List RV := [.tmp 2]
def Dl.q57 : List (List Nat) := [[5]]
def Mc.q57_L0 : MC := (.seq (.reg [
 ⟨none,some 17,false,.bin .lss,[.t 16,.t 15]⟩])
 (.seq (.ite (.t 17)
 .skip
 (.exit 0))
 (.seq (.blk 1 (.seq (.reg [
 ⟨none,some 18,false,.iadr 1,[.t 14,.t 16]⟩,
 ⟨none,some 19,false,.ld 1 false,[.t 18]⟩,
 ⟨none,some 5,true,.mv,[.t 19]⟩])
 (.seq (.reg [
 ⟨none,some 20,false,.mv,[.t 5]⟩,
 ⟨none,some 21,false,.call Fn.q59,[.t 20]⟩,
 ⟨none,some 22,false,.un .not,[.t 21]⟩])
 (.ite (.t 22)
 (.seq (.reg [
 ⟨none,some 2,true,.mv,[.c (.int .i64 2)]⟩])
 .ret)
 .skip))))
 (.reg [
 ⟨none,some 23,false,.bin .add,[.t 16,.c (.int .i64 1)]⟩,
 ⟨none,some 16,true,.mv,[.t 23]⟩]))))
def Mc.q57 : MC := (.seq (.reg [
 ⟨none,some 2,true,.mv,[.c (.int .i64 0)]⟩])
 (.seq (.seq (.reg [
 ⟨none,some 6,false,.mv,[.t 0]⟩,
 ⟨none,some 7,false,.len 0,[.t 6]⟩,
 ⟨none,some 8,false,.bin .gtr,[.t 7,.c (.int .i64 128)]⟩])
 (.ite (.t 8)
 (.seq (.reg [
 ⟨none,some 2,true,.mv,[.c (.int .i64 2)]⟩])
 .ret)
 .skip))
 (.seq (.reg [
 ⟨none,some 9,false,.mv,[.t 0]⟩,
 ⟨none,some 10,false,.call Fn.q50,[.t 9,.c (.int .u8 47)]⟩,
 ⟨none,some 3,true,.mv,[.t 10]⟩])
 (.seq (.seq (.reg [
 ⟨none,some 11,false,.mv,[.t 3]⟩,
 ⟨none,some 12,false,.len 1,[.t 11]⟩,
 ⟨none,some 13,false,.bin .gtr,[.t 12,.c (.int .i64 8)]⟩])
 (.ite (.t 13)
 (.seq (.reg [
 ⟨none,some 2,true,.mv,[.c (.int .i64 2)]⟩])
 .ret)
 .skip))
 (.seq (.seq (.reg [
 ⟨none,some 14,true,.mv,[.t 3]⟩,
 ⟨none,some 15,true,.len 1,[.t 14]⟩,
 ⟨none,some 16,true,.mv,[.c (.int .i64 0)]⟩])
 (.blk 0 (.loop [5] Mc.q57_L0)))
 (.seq (.reg [
 ⟨none,some 2,true,.mv,[.c (.int .i64 0)]⟩])
 .ret))))))
def Ks.q46 : List Nat := [0,2,3,4,5,6,7]
def Rs.q46 : List RV := [.tmp 2,.tmp 3]
def Dl.q46 : List (List Nat) := [[6,7]]
def Mc.q46_L0 : MC := (.seq (.seq (.reg [
 ⟨none,some 11,false,.mv,[.t 5]⟩,
 ⟨none,some 12,false,.mv,[.t 0]⟩,
 ⟨none,some 13,false,.len 0,[.t 12]⟩,
 ⟨none,some 14,false,.bin .lss,[.t 11,.t 13]⟩])
 (.ite (.t 14)
 .skip
 (.exit 0)))
 (.seq (.blk 1 (.seq (.rgd [
 ⟨none,some 17,false,.mv,[.t 0]⟩,
 ⟨none,some 18,false,.mv,[.t 5]⟩,
 ⟨none,some 19,false,.istr,[.t 17,.t 18]⟩,
 ⟨none,some 20,false,.call Fn.q51,[.t 19]⟩,
 ⟨none,some 21,false,.mv,[.t 0]⟩,
 ⟨none,some 22,false,.mv,[.t 5]⟩,
 ⟨none,some 23,false,.bin .add,[.t 22,.c (.int .i64 1)]⟩,
 ⟨none,some 24,false,.istr,[.t 21,.t 23]⟩,
 ⟨none,some 25,false,.call Fn.q51,[.t 24]⟩,
 ⟨none,some 6,true,.mv,[.t 20]⟩,
 ⟨none,some 7,true,.mv,[.t 25]⟩])
 (.seq (.seq (.reg [
 ⟨none,some 26,false,.mv,[.t 6]⟩,
 ⟨none,some 27,false,.bin .lss,[.t 26,.c (.int .i64 0)]⟩,
 ⟨none,some 28,false,.mv,[.t 27]⟩,
 ⟨some (28,false),some 29,false,.mv,[.t 7]⟩,
 ⟨some (28,false),some 30,false,.bin .lss,[.t 29,.c (.int .i64 0)]⟩,
 ⟨none,some 31,false,.pick,[.t 28,.c (.bool true),.t 30]⟩])
 (.ite (.t 31)
 (.seq (.reg [
 ⟨none,some 2,true,.mv,[.c (.str [])]⟩,
 ⟨none,some 3,true,.mv,[.c (.int .i64 4)]⟩])
 .ret)
 .skip))
 (.reg [
 ⟨none,some 32,false,.mv,[.t 4]⟩,
 ⟨none,some 33,false,.mv,[.t 6]⟩,
 ⟨none,some 34,false,.bin .mul,[.c (.int .i64 16),.t 33]⟩,
 ⟨none,some 35,false,.mv,[.t 7]⟩,
 ⟨none,some 36,false,.bin .add,[.t 34,.t 35]⟩,
 ⟨none,some 37,false,.conv .u8,[.t 36]⟩,
 ⟨none,some 38,false,.bsl false 1,[.t 37]⟩,
 ⟨none,some 39,false,.app false 1 1,[.t 32,.t 38]⟩,
 ⟨none,some 4,true,.mv,[.t 39]⟩]))))
 (.reg [
 ⟨none,some 15,false,.mv,[.t 5]⟩,
 ⟨none,some 16,false,.bin .add,[.t 15,.c (.int .i64 2)]⟩,
 ⟨none,some 5,true,.mv,[.t 16]⟩])))
def Mc.q46 : MC := (.seq (.reg [
 ⟨none,some 2,true,.mv,[.c (.str [])]⟩,
 ⟨none,some 3,true,.mv,[.c (.int .i64 0)]⟩])
 (.seq (.seq (.reg [
 ⟨none,some 8,false,.mv,[.t 0]⟩,
 ⟨none,some 9,false,.len 0,[.t 8]⟩,
 ⟨none,some 10,false,.bin .neq,[.t 9,.c (.int .i64 64)]⟩])
 (.ite (.t 10)
 (.seq (.reg [
 ⟨none,some 2,true,.mv,[.c (.str [])]⟩,
 ⟨none,some 3,true,.mv,[.c (.int .i64 4)]⟩])
 .ret)
 .skip))
 (.seq (.reg [
 ⟨none,some 4,true,.newnil 1,[]⟩])
 (.seq (.seq (.reg [
 ⟨none,some 5,true,.mv,[.c (.int .i64 0)]⟩])
 (.blk 0 (.loop [6,7] Mc.q46_L0)))
 (.seq (.reg [
 ⟨none,some 40,false,.mv,[.t 4]⟩,
 ⟨none,some 41,false,.b2s,[.t 40]⟩,
 ⟨none,some 2,true,.mv,[.t 41]⟩,
 ⟨none,some 3,true,.mv,[.c (.int .i64 0)]⟩])
 .ret)))))
def Ks.q58 : List Nat := [0,2,3,4]
def Rs.q58 : List RV := [.tmp 2]
def Dl.q58 : List (List Nat) := [[]]
def Mc.q58_L0 : MC := (.seq (.seq (.reg [
 ⟨none,some 23,false,.mv,[.t 4]⟩,
 ⟨none,some 24,false,.mv,[.t 0]⟩,
 ⟨none,some 25,false,.len 0,[.t 24]⟩,
 ⟨none,some 26,false,.bin .lss,[.t 23,.t 25]⟩])
 (.ite (.t 26)
 .skip
 (.exit 0)))
 (.seq (.blk 1 (.seq (.seq (.reg [
 ⟨none,some 29,false,.mv,[.t 0]⟩,
 ⟨none,some 30,false,.mv,[.t 4]⟩,
 ⟨none,some 31,false,.istr,[.t 29,.t 30]⟩,
 ⟨none,some 32,false,.bin .lss,[.t 31,.c (.int .u8 48)]⟩,
 ⟨none,some 33,false,.mv,[.t 32]⟩,
 ⟨some (33,false),some 34,false,.mv,[.t 0]⟩,
 ⟨some (33,false),some 35,false,.mv,[.t 4]⟩,
 ⟨some (33,false),some 36,false,.istr,[.t 34,.t 35]⟩,
 ⟨some (33,false),some 37,false,.bin .gtr,[.t 36,.c (.int .u8 57)]⟩,
 ⟨none,some 38,false,.pick,[.t 33,.c (.bool true),.t 37]⟩])
 (.ite (.t 38)
 (.seq (.reg [
 ⟨none,some 2,true,.mv,[.c (.bool false)]⟩])
 .ret)
 .skip))
 (.reg [
 ⟨none,some 39,false,.mv,[.t 3]⟩,
 ⟨none,some 40,false,.bin .mul,[.c (.int .i64 10),.t 39]⟩,
 ⟨none,some 41,false,.mv,[.t 0]⟩,
 ⟨none,some 42,false,.mv,[.t 4]⟩,
 ⟨none,some 43,false,.istr,[.t 41,.t 42]⟩,
 ⟨none,some 44,false,.bin .sub,[.t 43,.c (.int .u8 48)]⟩,
 ⟨none,some 45,false,.conv .i64,[.t 44]⟩,
 ⟨none,some 46,false,.bin .add,[.t 40,.t 45]⟩,
 ⟨none,some 3,true,.mv,[.t 46]⟩])))
 (.reg [
 ⟨none,some 27,false,.mv,[.t 4]⟩,
 ⟨none,some 28,false,.bin .add,[.t 27,.c (.int .i64 1)]⟩,
 ⟨none,some 4,true,.mv,[.t 28]⟩])))
def Mc.q58 : MC := (.seq (.reg [
 ⟨none,some 2,true,.mv,[.c (.bool false)]⟩])
 (.seq (.seq (.reg [
 ⟨none,some 5,false,.mv,[.t 0]⟩,
 ⟨none,some 6,false,.len 0,[.t 5]⟩,
 ⟨none,some 7,false,.bin .lss,[.t 6,.c (.int .i64 1)]⟩,
 ⟨none,some 8,false,.mv,[.t 7]⟩,
 ⟨some (8,false),some 9,false,.mv,[.t 0]⟩,
 ⟨some (8,false),some 10,false,.len 0,[.t 9]⟩,
 ⟨some (8,false),some 11,false,.bin .gtr,[.t 10,.c (.int .i64 5)]⟩,
 ⟨none,some 12,false,.pick,[.t 8,.c (.bool true),.t 11]⟩,
 ⟨none,some 13,false,.mv,[.t 12]⟩,
 ⟨some (13,false),some 14,false,.mv,[.t 0]⟩,
 ⟨some (13,false),some 15,false,.istr,[.t 14,.c (.int .i64 0)]⟩,
 ⟨some (13,false),some 16,false,.bin .eql,[.t 15,.c (.int .u8 48)]⟩,
 ⟨some (13,false),some 17,false,.mv,[.t 16]⟩,
 ⟨some (17,true),some 18,false,.mv,[.t 0]⟩,
 ⟨some (17,true),some 19,false,.len 0,[.t 18]⟩,
 ⟨some (17,true),some 20,false,.bin .gtr,[.t 19,.c (.int .i64 1)]⟩,
 ⟨some (13,false),some 21,false,.pick,[.t 17,.t 20,.c (.bool false)]⟩,
 ⟨none,some 22,false,.pick,[.t 13,.c (.bool true),.t 21]⟩])
 (.ite (.t 22)
 (.seq (.reg [
 ⟨none,some 2,true,.mv,[.c (.bool false)]⟩])
 .ret)
 .skip))
 (.seq (.reg [
 ⟨none,some 3,true,.mv,[.c (.int .i64 0)]⟩])
 (.seq (.seq (.reg [
 ⟨none,some 4,true,.mv,[.c (.int .i64 0)]⟩])
 (.blk 0 (.loop [] Mc.q58_L0)))
 (.seq (.reg [
 ⟨none,some 47,false,.mv,[.t 3]⟩,
 ⟨none,some 48,false,.bin .leq,[.t 47,.c (.int .i64 65536)]⟩,
 ⟨none,some 2,true,.mv,[.t 48]⟩])
 .ret)))))
def Ks.q26 : List Nat := [0,1,2,6,7,8,9]
def Rs.q26 : List RV := [.tmp 6]
def Dl.q26 : List (List Nat) := []
def Mc.q26 : MC := (.seq (.reg [
 ⟨none,some 6,true,.mv,[.c (.int .i64 0)]⟩])
 (.seq (.seq (.reg [
 ⟨none,some 10,false,.mv,[.t 0]⟩,
 ⟨none,some 11,false,.nilck,[.t 10]⟩,
 ⟨none,some 12,false,.fadr 1,[.t 11]⟩,
 ⟨none,some 13,false,.ld 1 false,[.t 12]⟩,
 ⟨none,some 14,false,.bin .neq,[.t 13,.c (.int .i64 0)]⟩])
 (.ite (.t 14)
 (.seq (.reg [
 ⟨none,some 6,true,.mv,[.c (.int .i64 0)]⟩])
 .ret)
 .skip))
 (.seq (.reg [
 ⟨none,some 16,false,.mv,[.t 0]⟩,
 ⟨none,some 17,false,.call Fn.q32,[.t 16,.c (.int .i64 281474976710656),.c (.int .u8 59)]⟩,
 ⟨none,some 15,false,.mv,[.t 17]⟩,
 ⟨none,some 18,false,.ext 0,[.t 15]⟩,
 ⟨none,some 19,false,.ext 1,[.t 15]⟩,
 ⟨none,some 20,false,.ext 2,[.t 15]⟩,
 ⟨none,some 7,true,.mv,[.t 18]⟩,
 ⟨none,some 8,true,.mv,[.t 19]⟩,
 ⟨none,some 9,true,.mv,[.t 20]⟩])
 (.seq (.seq (.reg [
 ⟨none,some 21,false,.mv,[.t 9]⟩,
 ⟨none,some 22,false,.bin .eql,[.t 21,.c (.int .i64 0)]⟩,
 ⟨none,some 23,false,.mv,[.t 22]⟩,
 ⟨some (23,true),some 24,false,.mv,[.t 7]⟩,
 ⟨some (23,true),some 25,false,.mv,[.t 1]⟩,
 ⟨some (23,true),some 26,false,.bin .lss,[.t 24,.t 25]⟩,
 ⟨some (23,true),some 27,false,.mv,[.t 26]⟩,
 ⟨some (27,false),some 28,false,.mv,[.t 7]⟩,
 ⟨some (27,false),some 29,false,.mv,[.t 2]⟩,
 ⟨some (27,false),some 30,false,.bin .gtr,[.t 28,.t 29]⟩,
 ⟨some (23,true),some 31,false,.pick,[.t 27,.c (.bool true),.t 30]⟩,
 ⟨none,some 32,false,.pick,[.t 23,.t 31,.c (.bool false)]⟩])
 (.ite (.t 32)
 (.reg [
 ⟨none,some 9,true,.mv,[.c (.int .i64 3)]⟩])
 .skip))
 (.seq (.seq (.reg [
 ⟨none,some 33,false,.mv,[.t 9]⟩,
 ⟨none,some 34,false,.bin .neq,[.t 33,.c (.int .i64 0)]⟩])
 (.ite (.t 34)
 (.seq (.reg [
 ⟨none,some 35,false,.mv,[.t 0]⟩,
 ⟨none,some 36,false,.mv,[.t 9]⟩,
 ⟨none,some 37,false,.call Fn.q34,[.t 35,.t 36]⟩])
 (.seq (.reg [
 ⟨none,some 6,true,.mv,[.c (.int .i64 0)]⟩])
 .ret))
 .skip))
 (.seq (.reg [
 ⟨none,some 38,false,.mv,[.t 0]⟩,
 ⟨none,some 39,false,.mv,[.t 0]⟩,
 ⟨none,some 40,false,.nilck,[.t 39]⟩,
 ⟨none,some 41,false,.fadr 0,[.t 40]⟩,
 ⟨none,some 42,false,.ld 1 false,[.t 41]⟩,
 ⟨none,some 43,false,.mv,[.t 8]⟩,
 ⟨none,some 44,false,.slc none true false false,[.t 42,.t 43]⟩,
 ⟨none,some 45,false,.nilck,[.t 38]⟩,
 ⟨none,some 46,false,.fadr 0,[.t 45]⟩,
 ⟨none,none,false,.st 1,[.t 46,.t 44]⟩])
 (.seq (.reg [
 ⟨none,some 47,false,.mv,[.t 7]⟩,
 ⟨none,some 6,true,.mv,[.t 47]⟩])
 .ret)))))))
def Ks.q17 : List Nat := [0,1,2,6,7,8,9]
def Rs.q17 : List RV := [.tmp 6]
def Dl.q17 : List (List Nat) := []
def Mc.q17 : MC := (.seq (.reg [
 ⟨none,some 6,true,.mv,[.c (.int .i64 0)]⟩])
 (.seq (.seq (.reg [
 ⟨none,some 10,false,.mv,[.t 0]⟩,
 ⟨none,some 11,false,.nilck,[.t 10]⟩,
 ⟨none,some 12,false,.fadr 1,[.t 11]⟩,
 ⟨none,some 13,false,.ld 1 false,[.t 12]⟩,
 ⟨none,some 14,false,.bin .neq,[.t 13,.c (.int .i64 0)]⟩])
 (.ite (.t 14)
 (.seq (.reg [
 ⟨none,some 6,true,.mv,[.c (.int .i64 0)]⟩])
 .ret)
 .skip))
 (.seq (.reg [
 ⟨none,some 16,false,.mv,[.t 0]⟩,
 ⟨none,some 17,false,.nilck,[.t 16]⟩,
 ⟨none,some 18,false,.fadr 0,[.t 17]⟩,
 ⟨none,some 19,false,.ld 1 false,[.t 18]⟩,
 ⟨none,some 20,false,.call Fn.q48,[.t 19,.c (.int .i64 281474976710656),.c (.int .u8 59)]⟩,
 ⟨none,some 15,false,.mv,[.t 20]⟩,
 ⟨none,some 21,false,.ext 0,[.t 15]⟩,
 ⟨none,some 22,false,.ext 1,[.t 15]⟩,
 ⟨none,some 23,false,.ext 2,[.t 15]⟩,
 ⟨none,some 7,true,.mv,[.t 21]⟩,
 ⟨none,some 8,true,.mv,[.t 22]⟩,
 ⟨none,some 9,true,.mv,[.t 23]⟩])
 (.seq (.seq (.reg [
 ⟨none,some 24,false,.mv,[.t 8]⟩,
 ⟨none,some 25,false,.bin .lss,[.t 24,.c (.int .i64 0)]⟩])
 (.ite (.t 25)
 (.seq (.seq (.reg [
 ⟨none,some 26,false,.mv,[.t 9]⟩])
 (.ite (.t 26)
 (.reg [
 ⟨none,some 27,false,.mv,[.t 0]⟩,
 ⟨none,some 28,false,.call Fn.q20,[.t 27,.c (.int .i64 13)]⟩])
 (.reg [
 ⟨none,some 29,false,.mv,[.t 0]⟩,
 ⟨none,some 30,false,.call Fn.q20,[.t 29,.c (.int .i64 17)]⟩])))
 (.seq (.reg [
 ⟨none,some 6,true,.mv,[.c (.int .i64 0)]⟩])
 .ret))
 .skip))
 (.seq (.seq (.reg [
 ⟨none,some 31,false,.mv,[.t 7]⟩,
 ⟨none,some 32,false,.mv,[.t 1]⟩,
 ⟨none,some 33,false,.bin .lss,[.t 31,.t 32]⟩,
 ⟨none,some 34,false,.mv,[.t 33]⟩,
 ⟨some (34,false),some 35,false,.mv,[.t 7]⟩,
 ⟨some (34,false),some 36,false,.mv,[.t 2]⟩,
 ⟨some (34,false),some 37,false,.bin .gtr,[.t 35,.t 36]⟩,
 ⟨none,some 38,false,.pick,[.t 34,.c (.bool true),.t 37]⟩])
 (.ite (.t 38)
 (.seq (.reg [
 ⟨none,some 39,false,.mv,[.t 0]⟩,
 ⟨none,some 40,false,.call Fn.q20,[.t 39,.c (.int .i64 3)]⟩])
 (.seq (.reg [
 ⟨none,some 6,true,.mv,[.c (.int .i64 0)]⟩])
 .ret))
 .skip))
 (.seq (.reg [
 ⟨none,some 41,false,.mv,[.t 0]⟩,
 ⟨none,some 42,false,.mv,[.t 0]⟩,
 ⟨none,some 43,false,.nilck,[.t 42]⟩,
 ⟨none,some 44,false,.fadr 0,[.t 43]⟩,
 ⟨none,some 45,false,.ld 1 false,[.t 44]⟩,
 ⟨none,some 46,false,.mv,[.t 8]⟩,
 ⟨none,some 47,false,.bin .add,[.t 46,.c (.int .i64 1)]⟩,
 ⟨none,some 48,false,.slc none true false false,[.t 45,.t 47]⟩,
 ⟨none,some 49,false,.nilck,[.t 41]⟩,
 ⟨none,some 50,false,.fadr 0,[.t 49]⟩,
 ⟨none,none,false,.st 1,[.t 50,.t 48]⟩])
 (.seq (.reg [
 ⟨none,some 51,false,.mv,[.t 7]⟩,
 ⟨none,some 6,true,.mv,[.t 51]⟩])
 .ret)))))))
def Ks.q9 : List Nat := [0,1,4]
def Rs.q9 : List RV := [.tmp 4]
def Dl.q9 : List (List Nat) := []
def Mc.q9 : MC := (.seq (.reg [
 ⟨none,some 4,true,.mv,[.c (.bool false)]⟩])
 (.seq (.reg [
 ⟨none,some 5,false,.mv,[.t 0]⟩,
 ⟨none,some 6,false,.mv,[.t 1]⟩,
 ⟨none,some 7,false,.call Fn.q11,[.t 5,.t 6]⟩,
 ⟨none,some 8,false,.bin .geq,[.t 7,.c (.int .i64 0)]⟩,
 ⟨none,some 4,true,.mv,[.t 8]⟩])
 .ret))
def Ks.q71 : List Nat := [0,1,2,3]
def Rs.q71 : List RV := [.tmp 3]
def Dl.q71 : List (List Nat) := []
def Mc.q71 : MC := (.seq (.reg [
 ⟨none,some 2,true,.box,[.t 0]⟩,
 ⟨none,some 3,true,.mv,[.c (.bool false)]⟩])
 (.seq (.reg [
 ⟨none,some 4,false,.fadr 0,[.t 1]⟩,
 ⟨none,some 5,false,.ld 1 false,[.t 4]⟩,
 ⟨none,some 6,false,.fadr 0,[.t 2]⟩,
 ⟨none,some 7,false,.ld 1 false,[.t 6]⟩,
 ⟨none,some 8,false,.call Fn.tree_below,[.t 5,.t 7]⟩,
 ⟨none,some 3,true,.mv,[.t 8]⟩])
 .ret))
def Ks.tree_below : List Nat := [0,1,4]
def Rs.tree_below : List RV := [.tmp 4]
def Dl.tree_below : List (List Nat) := []
def Mc.tree_below : MC := (.seq (.reg [
 ⟨none,some 4,true,.mv,[.c (.bool false)]⟩])
 (.seq (.reg [
 ⟨none,some 5,false,.mv,[.t 0]⟩,
 ⟨none,some 6,false,.mv,[.t 1]⟩,
 ⟨none,some 7,false,.bin .add,[.t 6,.c (.str [47])]⟩,
 ⟨none,some 8,false,.call Fn.q41,[.t 5,.t 7]⟩,
 ⟨none,some 4,true,.mv,[.t 8]⟩])
 .ret))
def Ks.q47 : List Nat := [0,1,4]
def Rs.q47 : List RV := [.tmp 4]
def Dl.q47 : List (List Nat) := []
def Mc.q47 : MC := (.seq (.reg [
 ⟨none,some 4,true,.mv,[.c (.bool false)]⟩])
 (.seq (.reg [
 ⟨none,some 5,false,.mv,[.t 0]⟩,
 ⟨none,some 6,false,.len 0,[.t 5]⟩,
 ⟨none,some 7,false,.mv,[.t 1]⟩,
 ⟨none,some 8,false,.len 0,[.t 7]⟩,
 ⟨none,some 9,false,.bin .gtr,[.t 6,.t 8]⟩,
 ⟨none,some 10,false,.mv,[.t 9]⟩,
 ⟨some (10,true),some 11,false,.mv,[.t 0]⟩,
 ⟨some (10,true),some 12,false,.mv,[.t 1]⟩,
 ⟨some (10,true),some 13,false,.len 0,[.t 12]⟩,
 ⟨some (10,true),some 14,false,.slc none false true false,[.t 11,.t 13]⟩,
 ⟨some (10,true),some 15,false,.mv,[.t 1]⟩,
 ⟨some (10,true),some 16,false,.bin .eql,[.t 14,.t 15]⟩,
 ⟨none,some 17,false,.pick,[.t 10,.t 16,.c (.bool false)]⟩,
 ⟨none,some 18,false,.mv,[.t 17]⟩,
 ⟨some (18,true),some 19,false,.mv,[.t 0]⟩,
 ⟨some (18,true),some 20,false,.mv,[.t 1]⟩,
 ⟨some (18,true),some 21,false,.len 0,[.t 20]⟩,
 ⟨some (18,true),some 22,false,.istr,[.t 19,.t 21]⟩,
 ⟨some (18,true),some 23,false,.bin .eql,[.t 22,.c (.int .u8 47)]⟩,
 ⟨none,some 24,false,.pick,[.t 18,.t 23,.c (.bool false)]⟩,
 ⟨none,some 4,true,.mv,[.t 24]⟩])
 .ret))
def Ks.q38 : List Nat := [0,2]
def Rs.q38 : List RV := [.tmp 2]
def Dl.q38 : List (List Nat) := []
def Mc.q38 : MC := (.seq (.reg [
 ⟨none,some 2,true,.mv,[.c (.str [])]⟩])
 (.seq (.seq (.reg [
 ⟨none,some 3,false,.mv,[.t 0]⟩,
 ⟨none,some 4,false,.bin .lss,[.t 3,.c (.int .i64 10)]⟩])
 (.ite (.t 4)
 (.seq (.reg [
 ⟨none,some 5,false,.mv,[.t 0]⟩,
 ⟨none,some 6,false,.bin .add,[.c (.int .i64 48),.t 5]⟩,
 ⟨none,some 7,false,.conv .u8,[.t 6]⟩,
 ⟨none,some 8,false,.bsl false 1,[.t 7]⟩,
 ⟨none,some 9,false,.b2s,[.t 8]⟩,
 ⟨none,some 2,true,.mv,[.t 9]⟩])
 .ret)
 .skip))
 (.seq (.rgd [
 ⟨none,some 10,false,.mv,[.t 0]⟩,
 ⟨none,some 11,false,.bin .quo,[.t 10,.c (.int .i64 10)]⟩,
 ⟨none,some 12,false,.call Fn.q38,[.t 11]⟩,
 ⟨none,some 13,false,.mv,[.t 0]⟩,
 ⟨none,some 14,false,.bin .rem,[.t 13,.c (.int .i64 10)]⟩,
 ⟨none,some 15,false,.bin .add,[.c (.int .i64 48),.t 14]⟩,
 ⟨none,some 16,false,.conv .u8,[.t 15]⟩,
 ⟨none,some 17,false,.bsl false 1,[.t 16]⟩,
 ⟨none,some 18,false,.b2s,[.t 17]⟩,
 ⟨none,some 19,false,.bin .add,[.t 12,.t 18]⟩,
 ⟨none,some 2,true,.mv,[.t 19]⟩])
 .ret)))
def Ks.q32 : List Nat := [0,1,2,6,7,8,9,10,11]
def Rs.q32 : List RV := [.tmp 6,.tmp 7,.tmp 8]
def Dl.q32 : List (List Nat) := [[11]]
def Mc.q32_L0 : MC := (.seq (.seq (.reg [
 ⟨none,some 12,false,.mv,[.t 10]⟩,
 ⟨none,some 13,false,.mv,[.t 0]⟩,
 ⟨none,some 14,false,.nilck,[.t 13]⟩,
 ⟨none,some 15,false,.fadr 0,[.t 14]⟩,
 ⟨none,some 16,false,.ld 1 false,[.t 15]⟩,
 ⟨none,some 17,false,.len 0,[.t 16]⟩,
 ⟨none,some 18,false,.bin .lss,[.t 12,.t 17]⟩])
 (.ite (.t 18)
 .skip
 (.exit 0)))
 (.seq (.blk 1 (.seq (.reg [
 ⟨none,some 21,false,.mv,[.t 0]⟩,
 ⟨none,some 22,false,.nilck,[.t 21]⟩,
 ⟨none,some 23,false,.fadr 0,[.t 22]⟩,
 ⟨none,some 24,false,.ld 1 false,[.t 23]⟩,
 ⟨none,some 25,false,.mv,[.t 10]⟩,
 ⟨none,some 26,false,.istr,[.t 24,.t 25]⟩,
 ⟨none,some 11,true,.mv,[.t 26]⟩])
 (.seq (.blk 2 (.seq (.reg [
 ⟨none,some 28,false,.mv,[.t 11]⟩,
 ⟨none,some 29,false,.mv,[.t 2]⟩,
 ⟨none,some 30,false,.bin .eql,[.t 28,.t 29]⟩,
 ⟨none,some 31,false,.mv,[.t 30]⟩,
 ⟨some (31,true),some 32,false,.mv,[.t 10]⟩,
 ⟨some (31,true),some 33,false,.bin .gtr,[.t 32,.c (.int .i64 0)]⟩,
 ⟨none,some 34,false,.pick,[.t 31,.t 33,.c (.bool false)]⟩,
 ⟨none,some 27,false,.mv,[.t 34]⟩])
 (.ite (.t 27)
 (.seq (.reg [
 ⟨none,some 35,false,.mv,[.t 9]⟩,
 ⟨none,some 36,false,.mv,[.t 10]⟩,
 ⟨none,some 37,false,.bin .add,[.t 36,.c (.int .i64 1)]⟩,
 ⟨none,some 6,true,.mv,[.t 35]⟩,
 ⟨none,some 7,true,.mv,[.t 37]⟩,
 ⟨none,some 8,true,.mv,[.c (.int .i64 0)]⟩])
 .ret)
 (.seq (.reg [
 ⟨none,some 39,false,.mv,[.t 11]⟩,
 ⟨none,some 40,false,.bin .lss,[.t 39,.c (.int .u8 48)]⟩,
 ⟨none,some 41,false,.mv,[.t 40]⟩,
 ⟨some (41,false),some 42,false,.mv,[.t 11]⟩,
 ⟨some (41,false),some 43,false,.bin .gtr,[.t 42,.c (.int .u8 57)]⟩,
 ⟨none,some 44,false,.pick,[.t 41,.c (.bool true),.t 43]⟩,
 ⟨none,some 45,false,.mv,[.t 44]⟩,
 ⟨some (45,false),some 46,false,.mv,[.t 10]⟩,
 ⟨some (45,false),some 47,false,.bin .eql,[.t 46,.c (.int .i64 1)]⟩,
 ⟨some (45,false),some 48,false,.mv,[.t 47]⟩,
 ⟨some (48,true),some 49,false,.mv,[.t 9]⟩,
 ⟨some (48,true),some 50,false,.bin .eql,[.t 49,.c (.int .i64 0)]⟩,
 ⟨some (45,false),some 51,false,.pick,[.t 48,.t 50,.c (.bool false)]⟩,
 ⟨none,some 52,false,.pick,[.t 45,.c (.bool true),.t 51]⟩,
 ⟨none,some 38,false,.mv,[.t 52]⟩])
 (.ite (.t 38)
 (.exit 0)
 .skip)))))
 (.seq (.reg [
 ⟨none,some 53,false,.mv,[.t 9]⟩,
 ⟨none,some 54,false,.bin .mul,[.c (.int .i64 10),.t 53]⟩,
 ⟨none,some 55,false,.mv,[.t 11]⟩,
 ⟨none,some 56,false,.bin .sub,[.t 55,.c (.int .u8 48)]⟩,
 ⟨none,some 57,false,.conv .i64,[.t 56]⟩,
 ⟨none,some 58,false,.bin .add,[.t 54,.t 57]⟩,
 ⟨none,some 9,true,.mv,[.t 58]⟩])
 (.seq (.reg [
 ⟨none,some 59,false,.mv,[.t 9]⟩,
 ⟨none,some 60,false,.mv,[.t 1]⟩,
 ⟨none,some 61,false,.bin .gtr,[.t 59,.t 60]⟩])
 (.ite (.t 61)
 (.exit 0)
 .skip))))))
 (.reg [
 ⟨none,some 19,false,.mv,[.t 10]⟩,
 ⟨none,some 20,false,.bin .add,[.t 19,.c (.int .i64 1)]⟩,
 ⟨none,some 10,true,.mv,[.t 20]⟩])))
def Mc.q32 : MC := (.seq (.reg [
 ⟨none,some 6,true,.mv,[.c (.int .i64 0)]⟩,
 ⟨none,some 7,true,.mv,[.c (.int .i64 0)]⟩,
 ⟨none,some 8,true,.mv,[.c (.int .i64 0)]⟩])
 (.seq (.reg [
 ⟨none,some 9,true,.mv,[.c (.int .i64 0)]⟩,
 ⟨none,some 10,true,.mv,[.c (.int .i64 0)]⟩])
 (.seq .skip
 (.seq (.blk 0 (.loop [11] Mc.q32_L0))
 (.seq (.seq (.reg [
 ⟨none,some 62,false,.mv,[.t 10]⟩,
 ⟨none,some 63,false,.mv,[.t 0]⟩,
 ⟨none,some 64,false,.nilck,[.t 63]⟩,
 ⟨none,some 65,false,.fadr 0,[.t 64]⟩,
 ⟨none,some 66,false,.ld 1 false,[.t 65]⟩,
 ⟨none,some 67,false,.len 0,[.t 66]⟩,
 ⟨none,some 68,false,.bin .eql,[.t 62,.t 67]⟩])
 (.ite (.t 68)
 (.seq (.reg [
 ⟨none,some 6,true,.mv,[.c (.int .i64 0)]⟩,
 ⟨none,some 7,true,.mv,[.c (.int .i64 0)]⟩,
 ⟨none,some 8,true,.mv,[.c (.int .i64 13)]⟩])
 .ret)
 .skip))
 (.seq (.reg [
 ⟨none,some 6,true,.mv,[.c (.int .i64 0)]⟩,
 ⟨none,some 7,true,.mv,[.c (.int .i64 0)]⟩,
 ⟨none,some 8,true,.mv,[.c (.int .i64 17)]⟩])
 .ret))))))
def Ks.q34 : List Nat := [0,1]
def Rs.q34 : List RV := []
def Dl.q34 : List (List Nat) := []
def Mc.q34 : MC := (.seq (.seq (.reg [
 ⟨none,some 4,false,.mv,[.t 0]⟩,
 ⟨none,some 5,false,.nilck,[.t 4]⟩,
 ⟨none,some 6,false,.fadr 1,[.t 5]⟩,
 ⟨none,some 7,false,.ld 1 false,[.t 6]⟩,
 ⟨none,some 8,false,.bin .eql,[.t 7,.c (.int .i64 0)]⟩])
 (.ite (.t 8)
 (.reg [
 ⟨none,some 9,false,.mv,[.t 0]⟩,
 ⟨none,some 10,false,.mv,[.t 1]⟩,
 ⟨none,some 11,false,.nilck,[.t 9]⟩,
 ⟨none,some 12,false,.fadr 1,[.t 11]⟩,
 ⟨none,none,false,.st 1,[.t 12,.t 10]⟩])
 .skip))
 (.reg [
 ⟨none,some 13,false,.mv,[.t 0]⟩,
 ⟨none,some 14,false,.nilck,[.t 13]⟩,
 ⟨none,some 15,false,.fadr 0,[.t 14]⟩,
 ⟨none,none,false,.st 1,[.t 15,.c (.str [])]⟩]))
def Ks.q64 : List Nat := [0,2]
def Rs.q64 : List RV := [.tmp 2]
def Dl.q64 : List (List Nat) := []
def Mc.q64 : MC := (.seq (.reg [
 ⟨none,some 2,true,.mv,[.c (.str [])]⟩])
 (.seq (.reg [
 ⟨none,some 3,false,.mv,[.t 0]⟩,
 ⟨none,some 4,false,.call Fn.q18,[.t 3]⟩,
 ⟨none,some 2,true,.mv,[.t 4]⟩])
 .ret))
def Ks.q48 : List Nat := [0,1,2,6,7,8,9,10]
def Rs.q48 : List RV := [.tmp 6,.tmp 7,.tmp 8]
def Dl.q48 : List (List Nat) := [[]]
def Mc.q48_L0 : MC := (.seq (.seq (.reg [
 ⟨none,some 11,false,.mv,[.t 10]⟩,
 ⟨none,some 12,false,.mv,[.t 0]⟩,
 ⟨none,some 13,false,.len 0,[.t 12]⟩,
 ⟨none,some 14,false,.bin .lss,[.t 11,.t 13]⟩])
 (.ite (.t 14)
 .skip
 (.exit 0)))
 (.seq (.blk 1 (.seq (.seq (.reg [
 ⟨none,some 17,false,.mv,[.t 0]⟩,
 ⟨none,some 18,false,.mv,[.t 10]⟩,
 ⟨none,some 19,false,.istr,[.t 17,.t 18]⟩,
 ⟨none,some 20,false,.mv,[.t 2]⟩,
 ⟨none,some 21,false,.bin .eql,[.t 19,.t 20]⟩,
 ⟨none,some 22,false,.mv,[.t 21]⟩,
 ⟨some (22,true),some 23,false,.mv,[.t 10]⟩,
 ⟨some (22,true),some 24,false,.bin .gtr,[.t 23,.c (.int .i64 0)]⟩,
 ⟨none,some 25,false,.pick,[.t 22,.t 24,.c (.bool false)]⟩])
 (.ite (.t 25)
 (.seq (.reg [
 ⟨none,some 26,false,.mv,[.t 9]⟩,
 ⟨none,some 27,false,.mv,[.t 10]⟩,
 ⟨none,some 6,true,.mv,[.t 26]⟩,
 ⟨none,some 7,true,.mv,[.t 27]⟩,
 ⟨none,some 8,true,.mv,[.c (.bool false)]⟩])
 .ret)
 .skip))
 (.seq (.seq (.reg [
 ⟨none,some 28,false,.mv,[.t 0]⟩,
 ⟨none,some 29,false,.mv,[.t 10]⟩,
 ⟨none,some 30,false,.istr,[.t 28,.t 29]⟩,
 ⟨none,some 31,false,.bin .lss,[.t 30,.c (.int .u8 48)]⟩,
 ⟨none,some 32,false,.mv,[.t 31]⟩,
 ⟨some (32,false),some 33,false,.mv,[.t 0]⟩,
 ⟨some (32,false),some 34,false,.mv,[.t 10]⟩,
 ⟨some (32,false),some 35,false,.istr,[.t 33,.t 34]⟩,
 ⟨some (32,false),some 36,false,.bin .gtr,[.t 35,.c (.int .u8 57)]⟩,
 ⟨none,some 37,false,.pick,[.t 32,.c (.bool true),.t 36]⟩,
 ⟨none,some 38,false,.mv,[.t 37]⟩,
 ⟨some (38,false),some 39,false,.mv,[.t 10]⟩,
 ⟨some (38,false),some 40,false,.bin .gtr,[.t 39,.c (.int .i64 0)]⟩,
 ⟨some (38,false),some 41,false,.mv,[.t 40]⟩,
 ⟨some (41,true),some 42,false,.mv,[.t 9]⟩,
 ⟨some (41,true),some 43,false,.bin .eql,[.t 42,.c (.int .i64 0)]⟩,
 ⟨some (38,false),some 44,false,.pick,[.t 41,.t 43,.c (.bool false)]⟩,
 ⟨none,some 45,false,.pick,[.t 38,.c (.bool true),.t 44]⟩])
 (.ite (.t 45)
 (.seq (.reg [
 ⟨none,some 6,true,.mv,[.c (.int .i64 0)]⟩,
 ⟨none,some 7,true,.mv,[.c (.int .i64 (-1))]⟩,
 ⟨none,some 8,true,.mv,[.c (.bool false)]⟩])
 .ret)
 .skip))
 (.seq (.reg [
 ⟨none,some 46,false,.mv,[.t 9]⟩,
 ⟨none,some 47,false,.bin .mul,[.c (.int .i64 10),.t 46]⟩,
 ⟨none,some 48,false,.mv,[.t 0]⟩,
 ⟨none,some 49,false,.mv,[.t 10]⟩,
 ⟨none,some 50,false,.istr,[.t 48,.t 49]⟩,
 ⟨none,some 51,false,.bin .sub,[.t 50,.c (.int .u8 48)]⟩,
 ⟨none,some 52,false,.conv .i64,[.t 51]⟩,
 ⟨none,some 53,false,.bin .add,[.t 47,.t 52]⟩,
 ⟨none,some 9,true,.mv,[.t 53]⟩])
 (.seq (.reg [
 ⟨none,some 54,false,.mv,[.t 9]⟩,
 ⟨none,some 55,false,.mv,[.t 1]⟩,
 ⟨none,some 56,false,.bin .gtr,[.t 54,.t 55]⟩])
 (.ite (.t 56)
 (.seq (.reg [
 ⟨none,some 6,true,.mv,[.c (.int .i64 0)]⟩,
 ⟨none,some 7,true,.mv,[.c (.int .i64 (-1))]⟩,
 ⟨none,some 8,true,.mv,[.c (.bool false)]⟩])
 .ret)
 .skip))))))
 (.reg [
 ⟨none,some 15,false,.mv,[.t 10]⟩,
 ⟨none,some 16,false,.bin .add,[.t 15,.c (.int .i64 1)]⟩,
 ⟨none,some 10,true,.mv,[.t 16]⟩])))
def Mc.q48 : MC := (.seq (.reg [
 ⟨none,some 6,true,.mv,[.c (.int .i64 0)]⟩,
 ⟨none,some 7,true,.mv,[.c (.int .i64 0)]⟩,
 ⟨none,some 8,true,.mv,[.c (.bool false)]⟩])
 (.seq (.reg [
 ⟨none,some 9,true,.mv,[.c (.int .i64 0)]⟩])
 (.seq (.seq (.reg [
 ⟨none,some 10,true,.mv,[.c (.int .i64 0)]⟩])
 (.blk 0 (.loop [] Mc.q48_L0)))
 (.seq (.reg [
 ⟨none,some 6,true,.mv,[.c (.int .i64 0)]⟩,
 ⟨none,some 7,true,.mv,[.c (.int .i64 (-1))]⟩,
 ⟨none,some 8,true,.mv,[.c (.bool true)]⟩])
 .ret))))
def Ks.q20 : List Nat := [0,1]
def Rs.q20 : List RV := []
def Dl.q20 : List (List Nat) := []
def Mc.q20 : MC := (.reg [
 ⟨none,some 4,false,.mv,[.t 0]⟩,
 ⟨none,some 5,false,.mv,[.t 0]⟩,
 ⟨none,some 6,false,.mv,[.t 1]⟩,
 ⟨none,some 7,false,.nilck,[.t 4]⟩,
 ⟨none,some 8,false,.fadr 0,[.t 7]⟩,
 ⟨none,none,false,.st 1,[.t 8,.c (.str [])]⟩,
 ⟨none,some 9,false,.nilck,[.t 5]⟩,
 ⟨none,some 10,false,.fadr 1,[.t 9]⟩,
 ⟨none,none,false,.st 1,[.t 10,.t 6]⟩])
def Ks.q59 : List Nat := [0,2,3,4]
def Rs.q59 : List RV := [.tmp 2]
def Dl.q59 : List (List Nat) := [[4]]
def Mc.q59_L0 : MC := (.seq (.seq (.reg [
 ⟨none,some 23,false,.mv,[.t 3]⟩,
 ⟨none,some 24,false,.mv,[.t 0]⟩,
 ⟨none,some 25,false,.len 0,[.t 24]⟩,
 ⟨none,some 26,false,.bin .lss,[.t 23,.t 25]⟩])
 (.ite (.t 26)
 .skip
 (.exit 0)))
 (.seq (.blk 1 (.seq (.reg [
 ⟨none,some 29,false,.mv,[.t 0]⟩,
 ⟨none,some 30,false,.mv,[.t 3]⟩,
 ⟨none,some 31,false,.istr,[.t 29,.t 30]⟩,
 ⟨none,some 4,true,.mv,[.t 31]⟩])
 (.seq (.reg [
 ⟨none,some 32,false,.mv,[.t 4]⟩,
 ⟨none,some 33,false,.bin .lss,[.t 32,.c (.int .u8 97)]⟩,
 ⟨none,some 34,false,.mv,[.t 33]⟩,
 ⟨some (34,false),some 35,false,.mv,[.t 4]⟩,
 ⟨some (34,false),some 36,false,.bin .gtr,[.t 35,.c (.int .u8 122)]⟩,
 ⟨none,some 37,false,.pick,[.t 34,.c (.bool true),.t 36]⟩,
 ⟨none,some 38,false,.mv,[.t 37]⟩,
 ⟨some (38,true),some 39,false,.mv,[.t 4]⟩,
 ⟨some (38,true),some 40,false,.bin .lss,[.t 39,.c (.int .u8 48)]⟩,
 ⟨some (38,true),some 41,false,.mv,[.t 40]⟩,
 ⟨some (41,false),some 42,false,.mv,[.t 4]⟩,
 ⟨some (41,false),some 43,false,.bin .gtr,[.t 42,.c (.int .u8 57)]⟩,
 ⟨some (38,true),some 44,false,.pick,[.t 41,.c (.bool true),.t 43]⟩,
 ⟨none,some 45,false,.pick,[.t 38,.t 44,.c (.bool false)]⟩,
 ⟨none,some 46,false,.mv,[.t 45]⟩,
 ⟨some (46,true),some 47,false,.mv,[.t 4]⟩,
 ⟨some (46,true),some 48,false,.bin .neq,[.t 47,.c (.int .u8 46)]⟩,
 ⟨none,some 49,false,.pick,[.t 46,.t 48,.c (.bool false)]⟩,
 ⟨none,some 50,false,.mv,[.t 49]⟩,
 ⟨some (50,true),some 51,false,.mv,[.t 4]⟩,
 ⟨some (50,true),some 52,false,.bin .neq,[.t 51,.c (.int .u8 95)]⟩,
 ⟨none,some 53,false,.pick,[.t 50,.t 52,.c (.bool false)]⟩,
 ⟨none,some 54,false,.mv,[.t 53]⟩,
 ⟨some (54,true),some 55,false,.mv,[.t 4]⟩,
 ⟨some (54,true),some 56,false,.bin .neq,[.t 55,.c (.int .u8 45)]⟩,
 ⟨none,some 57,false,.pick,[.t 54,.t 56,.c (.bool false)]⟩])
 (.ite (.t 57)
 (.seq (.reg [
 ⟨none,some 2,true,.mv,[.c (.bool false)]⟩])
 .ret)
 .skip))))
 (.reg [
 ⟨none,some 27,false,.mv,[.t 3]⟩,
 ⟨none,some 28,false,.bin .add,[.t 27,.c (.int .i64 1)]⟩,
 ⟨none,some 3,true,.mv,[.t 28]⟩])))
def Mc.q59 : MC := (.seq (.reg [
 ⟨none,some 2,true,.mv,[.c (.bool false)]⟩])
 (.seq (.seq (.reg [
 ⟨none,some 5,false,.mv,[.t 0]⟩,
 ⟨none,some 6,false,.len 0,[.t 5]⟩,
 ⟨none,some 7,false,.bin .lss,[.t 6,.c (.int .i64 1)]⟩,
 ⟨none,some 8,false,.mv,[.t 7]⟩,
 ⟨some (8,false),some 9,false,.mv,[.t 0]⟩,
 ⟨some (8,false),some 10,false,.len 0,[.t 9]⟩,
 ⟨some (8,false),some 11,false,.bin .gtr,[.t 10,.c (.int .i64 32)]⟩,
 ⟨none,some 12,false,.pick,[.t 8,.c (.bool true),.t 11]⟩,
 ⟨none,some 13,false,.mv,[.t 12]⟩,
 ⟨some (13,false),some 14,false,.mv,[.t 0]⟩,
 ⟨some (13,false),some 15,false,.istr,[.t 14,.c (.int .i64 0)]⟩,
 ⟨some (13,false),some 16,false,.bin .eql,[.t 15,.c (.int .u8 46)]⟩,
 ⟨none,some 17,false,.pick,[.t 13,.c (.bool true),.t 16]⟩,
 ⟨none,some 18,false,.mv,[.t 17]⟩,
 ⟨some (18,false),some 19,false,.mv,[.t 0]⟩,
 ⟨some (18,false),some 20,false,.istr,[.t 19,.c (.int .i64 0)]⟩,
 ⟨some (18,false),some 21,false,.bin .eql,[.t 20,.c (.int .u8 45)]⟩,
 ⟨none,some 22,false,.pick,[.t 18,.c (.bool true),.t 21]⟩])
 (.ite (.t 22)
 (.seq (.reg [
 ⟨none,some 2,true,.mv,[.c (.bool false)]⟩])
 .ret)
 .skip))
 (.seq (.seq (.reg [
 ⟨none,some 3,true,.mv,[.c (.int .i64 0)]⟩])
 (.blk 0 (.loop [4] Mc.q59_L0)))
 (.seq (.reg [
 ⟨none,some 2,true,.mv,[.c (.bool true)]⟩])
 .ret))))
def Ks.q14 : List Nat := [0,1,4]
def Rs.q14 : List RV := [.tmp 4]
def Dl.q14 : List (List Nat) := []
def Mc.q14 : MC := (.seq (.reg [
 ⟨none,some 4,true,.mv,[.c (.bool false)]⟩])
 (.seq (.reg [
 ⟨none,some 5,false,.mv,[.t 0]⟩,
 ⟨none,some 6,false,.mv,[.t 1]⟩,
 ⟨none,some 7,false,.call Fn.q16,[.t 5,.t 6]⟩,
 ⟨none,some 8,false,.bin .geq,[.t 7,.c (.int .i64 0)]⟩,
 ⟨none,some 4,true,.mv,[.t 8]⟩])
 .ret))
def Ks.q49 : List Nat := [0,1,4,5,6,7]
def Rs.q49 : List RV := [.tmp 4]
def Dl.q49 : List (List Nat) := [[]]
def Mc.q49_L0 : MC := (.seq (.seq (.reg [
 ⟨none,some 8,false,.mv,[.t 7]⟩,
 ⟨none,some 9,false,.mv,[.t 0]⟩,
 ⟨none,some 10,false,.len 0,[.t 9]⟩,
 ⟨none,some 11,false,.bin .leq,[.t 8,.t 10]⟩])
 (.ite (.t 11)
 .skip
 (.exit 0)))
 (.seq (.blk 1 (.seq (.reg [
 ⟨none,some 14,false,.mv,[.t 7]⟩,
 ⟨none,some 15,false,.mv,[.t 0]⟩,
 ⟨none,some 16,false,.len 0,[.t 15]⟩,
 ⟨none,some 17,false,.bin .eql,[.t 14,.t 16]⟩,
 ⟨none,some 18,false,.mv,[.t 17]⟩,
 ⟨some (18,false),some 19,false,.mv,[.t 0]⟩,
 ⟨some (18,false),some 20,false,.mv,[.t 7]⟩,
 ⟨some (18,false),some 21,false,.istr,[.t 19,.t 20]⟩,
 ⟨some (18,false),some 22,false,.mv,[.t 1]⟩,
 ⟨some (18,false),some 23,false,.bin .eql,[.t 21,.t 22]⟩,
 ⟨none,some 24,false,.pick,[.t 18,.c (.bool true),.t 23]⟩])
 (.ite (.t 24)
 (.seq (.reg [
 ⟨none,some 25,false,.mv,[.t 5]⟩,
 ⟨none,some 26,false,.mv,[.t 0]⟩,
 ⟨none,some 27,false,.mv,[.t 6]⟩,
 ⟨none,some 28,false,.mv,[.t 7]⟩,
 ⟨none,some 29,false,.slc none true true false,[.t 26,.t 27,.t 28]⟩,
 ⟨none,some 30,false,.bsl false 1,[.t 29]⟩,
 ⟨none,some 31,false,.app false 1 16,[.t 25,.t 30]⟩,
 ⟨none,some 5,true,.mv,[.t 31]⟩])
 (.reg [
 ⟨none,some 32,false,.mv,[.t 7]⟩,
 ⟨none,some 33,false,.bin .add,[.t 32,.c (.int .i64 1)]⟩,
 ⟨none,some 6,true,.mv,[.t 33]⟩]))
 .skip)))
 (.reg [
 ⟨none,some 12,false,.mv,[.t 7]⟩,
 ⟨none,some 13,false,.bin .add,[.t 12,.c (.int .i64 1)]⟩,
 ⟨none,some 7,true,.mv,[.t 13]⟩])))
def Mc.q49 : MC := (.seq (.reg [
 ⟨none,some 4,true,.newnil 1,[]⟩])
 (.seq (.reg [
 ⟨none,some 5,true,.newnil 1,[]⟩])
 (.seq (.reg [
 ⟨none,some 6,true,.mv,[.c (.int .i64 0)]⟩])
 (.seq (.seq (.reg [
 ⟨none,some 7,true,.mv,[.c (.int .i64 0)]⟩])
 (.blk 0 (.loop [] Mc.q49_L0)))
 (.seq (.reg [
 ⟨none,some 34,false,.mv,[.t 5]⟩,
 ⟨none,some 4,true,.mv,[.t 34]⟩])
 .ret)))))
def Ks.q61 : List Nat := [0,1,4,5]
def Rs.q61 : List RV := [.tmp 4]
def Dl.q61 : List (List Nat) := [[]]
def Mc.q61_L0 : MC := (.seq (.seq (.reg [
 ⟨none,some 6,false,.mv,[.t 5]⟩,
 ⟨none,some 7,false,.mv,[.t 0]⟩,
 ⟨none,some 8,false,.len 1,[.t 7]⟩,
 ⟨none,some 9,false,.bin .lss,[.t 6,.t 8]⟩])
 (.ite (.t 9)
 .skip
 (.exit 0)))
 (.seq (.blk 1 (.seq (.reg [
 ⟨none,some 12,false,.mv,[.t 0]⟩,
 ⟨none,some 13,false,.mv,[.t 5]⟩,
 ⟨none,some 14,false,.iadr 1,[.t 12,.t 13]⟩,
 ⟨none,some 15,false,.ld 1 false,[.t 14]⟩,
 ⟨none,some 16,false,.mv,[.t 1]⟩,
 ⟨none,some 17,false,.bin .eql,[.t 15,.t 16]⟩])
 (.ite (.t 17)
 (.seq (.reg [
 ⟨none,some 4,true,.mv,[.c (.bool true)]⟩])
 .ret)
 .skip)))
 (.reg [
 ⟨none,some 10,false,.mv,[.t 5]⟩,
 ⟨none,some 11,false,.bin .add,[.t 10,.c (.int .i64 1)]⟩,
 ⟨none,some 5,true,.mv,[.t 11]⟩])))
def Mc.q61 : MC := (.seq (.reg [
 ⟨none,some 4,true,.mv,[.c (.bool false)]⟩])
 (.seq (.seq (.reg [
 ⟨none,some 5,true,.mv,[.c (.int .i64 0)]⟩])
 (.blk 0 (.loop [] Mc.q61_L0)))
 (.seq (.reg [
 ⟨none,some 4,true,.mv,[.c (.bool false)]⟩])
 .ret)))
def Ks.q10 : List Nat := [0,1,4]
def Rs.q10 : List RV := [.tmp 4]
def Dl.q10 : List (List Nat) := []
def Mc.q10 : MC := (.seq (.reg [
 ⟨none,some 4,true,.mv,[.c (.bool false)]⟩])
 (.seq (.reg [
 ⟨none,some 5,false,.mv,[.t 0]⟩,
 ⟨none,some 6,false,.mv,[.t 1]⟩,
 ⟨none,some 7,false,.call Fn.q13,[.t 5,.t 6]⟩,
 ⟨none,some 8,false,.bin .geq,[.t 7,.c (.int .i64 0)]⟩,
 ⟨none,some 4,true,.mv,[.t 8]⟩])
 .ret))
def Ks.tree_Path_1 : List Nat := [0,2]
def Rs.tree_Path_1 : List RV := [.tmp 2]
def Dl.tree_Path_1 : List (List Nat) := []
def Mc.tree_Path_1 : MC := (.seq (.reg [
 ⟨none,some 2,true,.mv,[.c (.bool false)]⟩])
 (.seq (.reg [
 ⟨none,some 3,false,.mv,[.t 0]⟩,
 ⟨none,some 4,false,.call Fn.tree_part,[.t 3]⟩,
 ⟨none,some 5,false,.un .not,[.t 4]⟩,
 ⟨none,some 2,true,.mv,[.t 5]⟩])
 .ret))
def Ks.tree_part : List Nat := [0,2]
def Rs.tree_part : List RV := [.tmp 2]
def Dl.tree_part : List (List Nat) := []
def Mc.tree_part : MC := (.seq (.reg [
 ⟨none,some 2,true,.mv,[.c (.bool false)]⟩])
 (.seq (.seq (.reg [
 ⟨none,some 3,false,.mv,[.t 0]⟩,
 ⟨none,some 4,false,.bin .eql,[.t 3,.c (.str [])]⟩,
 ⟨none,some 5,false,.mv,[.t 4]⟩,
 ⟨some (5,false),some 6,false,.mv,[.t 0]⟩,
 ⟨some (5,false),some 7,false,.len 0,[.t 6]⟩,
 ⟨some (5,false),some 8,false,.bin .gtr,[.t 7,.c (.int .i64 32)]⟩,
 ⟨none,some 9,false,.pick,[.t 5,.c (.bool true),.t 8]⟩,
 ⟨none,some 10,false,.mv,[.t 9]⟩,
 ⟨some (10,false),some 11,false,.mv,[.t 0]⟩,
 ⟨some (10,false),some 12,false,.istr,[.t 11,.c (.int .i64 0)]⟩,
 ⟨some (10,false),some 13,false,.bin .eql,[.t 12,.c (.int .u8 46)]⟩,
 ⟨none,some 14,false,.pick,[.t 10,.c (.bool true),.t 13]⟩,
 ⟨none,some 15,false,.mv,[.t 14]⟩,
 ⟨some (15,false),some 16,false,.mv,[.t 0]⟩,
 ⟨some (15,false),some 17,false,.istr,[.t 16,.c (.int .i64 0)]⟩,
 ⟨some (15,false),some 18,false,.bin .eql,[.t 17,.c (.int .u8 45)]⟩,
 ⟨none,some 19,false,.pick,[.t 15,.c (.bool true),.t 18]⟩])
 (.ite (.t 19)
 (.seq (.reg [
 ⟨none,some 2,true,.mv,[.c (.bool false)]⟩])
 .ret)
 .skip))
 (.seq (.reg [
 ⟨none,some 20,false,.mv,[.t 0]⟩,
 ⟨none,some 21,false,.call Fn.q35,[.t 20,.c (.fn Fn.tree_part_1 [])]⟩,
 ⟨none,some 22,false,.un .not,[.t 21]⟩,
 ⟨none,some 2,true,.mv,[.t 22]⟩])
 .ret)))
def Ks.q50 : List Nat := [0,1,4,5,6,7]
def Rs.q50 : List RV := [.tmp 4]
def Dl.q50 : List (List Nat) := [[]]
def Mc.q50_L0 : MC := (.seq (.seq (.reg [
 ⟨none,some 8,false,.mv,[.t 7]⟩,
 ⟨none,some 9,false,.mv,[.t 0]⟩,
 ⟨none,some 10,false,.len 0,[.t 9]⟩,
 ⟨none,some 11,false,.bin .lss,[.t 8,.t 10]⟩])
 (.ite (.t 11)
 .skip
 (.exit 0)))
 (.seq (.blk 1 (.seq (.reg [
 ⟨none,some 14,false,.mv,[.t 0]⟩,
 ⟨none,some 15,false,.mv,[.t 7]⟩,
 ⟨none,some 16,false,.istr,[.t 14,.t 15]⟩,
 ⟨none,some 17,false,.mv,[.t 1]⟩,
 ⟨none,some 18,false,.bin .eql,[.t 16,.t 17]⟩])
 (.ite (.t 18)
 (.seq (.reg [
 ⟨none,some 19,false,.mv,[.t 5]⟩,
 ⟨none,some 20,false,.mv,[.t 0]⟩,
 ⟨none,some 21,false,.mv,[.t 6]⟩,
 ⟨none,some 22,false,.mv,[.t 7]⟩,
 ⟨none,some 23,false,.slc none true true false,[.t 20,.t 21,.t 22]⟩,
 ⟨none,some 24,false,.bsl false 1,[.t 23]⟩,
 ⟨none,some 25,false,.app false 1 16,[.t 19,.t 24]⟩,
 ⟨none,some 5,true,.mv,[.t 25]⟩])
 (.reg [
 ⟨none,some 26,false,.mv,[.t 7]⟩,
 ⟨none,some 27,false,.bin .add,[.t 26,.c (.int .i64 1)]⟩,
 ⟨none,some 6,true,.mv,[.t 27]⟩]))
 .skip)))
 (.reg [
 ⟨none,some 12,false,.mv,[.t 7]⟩,
 ⟨none,some 13,false,.bin .add,[.t 12,.c (.int .i64 1)]⟩,
 ⟨none,some 7,true,.mv,[.t 13]⟩])))
def Mc.q50 : MC := (.seq (.reg [
 ⟨none,some 4,true,.newnil 1,[]⟩])
 (.seq (.reg [
 ⟨none,some 5,true,.newnil 1,[]⟩])
 (.seq (.reg [
 ⟨none,some 6,true,.mv,[.c (.int .i64 0)]⟩])
 (.seq (.seq (.reg [
 ⟨none,some 7,true,.mv,[.c (.int .i64 0)]⟩])
 (.blk 0 (.loop [] Mc.q50_L0)))
 (.seq (.reg [
 ⟨none,some 28,false,.mv,[.t 5]⟩,
 ⟨none,some 29,false,.mv,[.t 0]⟩,
 ⟨none,some 30,false,.mv,[.t 6]⟩,
 ⟨none,some 31,false,.slc none true false false,[.t 29,.t 30]⟩,
 ⟨none,some 32,false,.bsl false 1,[.t 31]⟩,
 ⟨none,some 33,false,.app false 1 16,[.t 28,.t 32]⟩,
 ⟨none,some 4,true,.mv,[.t 33]⟩])
 .ret)))))
def Ks.q51 : List Nat := [0,2]
def Rs.q51 : List RV := [.tmp 2]
def Dl.q51 : List (List Nat) := []
def Mc.q51 : MC := (.seq (.reg [
 ⟨none,some 2,true,.mv,[.c (.int .i64 0)]⟩])
 (.seq (.seq (.reg [
 ⟨none,some 3,false,.mv,[.t 0]⟩,
 ⟨none,some 4,false,.bin .geq,[.t 3,.c (.int .u8 48)]⟩,
 ⟨none,some 5,false,.mv,[.t 4]⟩,
 ⟨some (5,true),some 6,false,.mv,[.t 0]⟩,
 ⟨some (5,true),some 7,false,.bin .leq,[.t 6,.c (.int .u8 57)]⟩,
 ⟨none,some 8,false,.pick,[.t 5,.t 7,.c (.bool false)]⟩])
 (.ite (.t 8)
 (.seq (.reg [
 ⟨none,some 9,false,.mv,[.t 0]⟩,
 ⟨none,some 10,false,.bin .sub,[.t 9,.c (.int .u8 48)]⟩,
 ⟨none,some 11,false,.conv .i64,[.t 10]⟩,
 ⟨none,some 2,true,.mv,[.t 11]⟩])
 .ret)
 .skip))
 (.seq (.seq (.reg [
 ⟨none,some 12,false,.mv,[.t 0]⟩,
 ⟨none,some 13,false,.bin .geq,[.t 12,.c (.int .u8 97)]⟩,
 ⟨none,some 14,false,.mv,[.t 13]⟩,
 ⟨some (14,true),some 15,false,.mv,[.t 0]⟩,
 ⟨some (14,true),some 16,false,.bin .leq,[.t 15,.c (.int .u8 102)]⟩,
 ⟨none,some 17,false,.pick,[.t 14,.t 16,.c (.bool false)]⟩])
 (.ite (.t 17)
 (.seq (.reg [
 ⟨none,some 18,false,.mv,[.t 0]⟩,
 ⟨none,some 19,false,.bin .sub,[.t 18,.c (.int .u8 97)]⟩,
 ⟨none,some 20,false,.conv .i64,[.t 19]⟩,
 ⟨none,some 21,false,.bin .add,[.t 20,.c (.int .i64 10)]⟩,
 ⟨none,some 2,true,.mv,[.t 21]⟩])
 .ret)
 .skip))
 (.seq (.reg [
 ⟨none,some 2,true,.mv,[.c (.int .i64 (-1))]⟩])
 .ret))))
def Ks.q11 : List Nat := [0,1,4,5,7,8]
def Rs.q11 : List RV := [.tmp 4]
def Dl.q11 : List (List Nat) := [[5]]
def Mc.q11_L0 : MC := (.seq (.reg [
 ⟨none,some 9,false,.bin .lss,[.t 8,.t 7]⟩])
 (.seq (.ite (.t 9)
 .skip
 (.exit 0))
 (.seq (.blk 1 (.seq (.reg [
 ⟨none,some 10,false,.mv,[.t 8]⟩,
 ⟨none,some 5,true,.mv,[.t 10]⟩])
 (.seq (.reg [
 ⟨none,some 11,false,.mv,[.t 1]⟩,
 ⟨none,some 12,false,.mv,[.t 0]⟩,
 ⟨none,some 13,false,.mv,[.t 5]⟩,
 ⟨none,some 14,false,.iadr 2,[.t 12,.t 13]⟩,
 ⟨none,some 15,false,.ld 2 true,[.t 14]⟩,
 ⟨none,some 16,false,.callv,[.t 11,.t 15]⟩])
 (.ite (.t 16)
 (.seq (.reg [
 ⟨none,some 17,false,.mv,[.t 5]⟩,
 ⟨none,some 4,true,.mv,[.t 17]⟩])
 .ret)
 .skip))))
 (.reg [
 ⟨none,some 18,false,.bin .add,[.t 8,.c (.int .i64 1)]⟩,
 ⟨none,some 8,true,.mv,[.t 18]⟩]))))
def Mc.q11 : MC := (.seq (.reg [
 ⟨none,some 4,true,.mv,[.c (.int .i64 0)]⟩])
 (.seq (.seq (.reg [
 ⟨none,some 6,false,.mv,[.t 0]⟩,
 ⟨none,some 7,true,.len 1,[.t 6]⟩,
 ⟨none,some 8,true,.mv,[.c (.int .i64 0)]⟩])
 (.blk 0 (.loop [5] Mc.q11_L0)))
 (.seq (.reg [
 ⟨none,some 4,true,.mv,[.c (.int .i64 (-1))]⟩])
 .ret)))
def Ks.q41 : List Nat := [0,1,4]
def Rs.q41 : List RV := [.tmp 4]
def Dl.q41 : List (List Nat) := []
def Mc.q41 : MC := (.seq (.reg [
 ⟨none,some 4,true,.mv,[.c (.bool false)]⟩])
 (.seq (.reg [
 ⟨none,some 5,false,.mv,[.t 0]⟩,
 ⟨none,some 6,false,.mv,[.t 1]⟩,
 ⟨none,some 7,false,.call Fn.q15,[.t 5,.t 6]⟩,
 ⟨none,some 4,true,.mv,[.t 7]⟩])
 .ret))
def Ks.q16 : List Nat := [0,1,4,5,7,8]
def Rs.q16 : List RV := [.tmp 4]
def Dl.q16 : List (List Nat) := [[5]]
def Mc.q16_L0 : MC := (.seq (.reg [
 ⟨none,some 9,false,.bin .lss,[.t 8,.t 7]⟩])
 (.seq (.ite (.t 9)
 .skip
 (.exit 0))
 (.seq (.blk 1 (.seq (.reg [
 ⟨none,some 10,false,.mv,[.t 8]⟩,
 ⟨none,some 5,true,.mv,[.t 10]⟩])
 (.seq (.reg [
 ⟨none,some 11,false,.mv,[.t 1]⟩,
 ⟨none,some 12,false,.mv,[.t 0]⟩,
 ⟨none,some 13,false,.mv,[.t 5]⟩,
 ⟨none,some 14,false,.iadr 1,[.t 12,.t 13]⟩,
 ⟨none,some 15,false,.ld 1 false,[.t 14]⟩,
 ⟨none,some 16,false,.bin .eql,[.t 11,.t 15]⟩])
 (.ite (.t 16)
 (.seq (.reg [
 ⟨none,some 17,false,.mv,[.t 5]⟩,
 ⟨none,some 4,true,.mv,[.t 17]⟩])
 .ret)
 .skip))))
 (.reg [
 ⟨none,some 18,false,.bin .add,[.t 8,.c (.int .i64 1)]⟩,
 ⟨none,some 8,true,.mv,[.t 18]⟩]))))
def Mc.q16 : MC := (.seq (.reg [
 ⟨none,some 4,true,.mv,[.c (.int .i64 0)]⟩])
 (.seq (.seq (.reg [
 ⟨none,some 6,false,.mv,[.t 0]⟩,
 ⟨none,some 7,true,.len 1,[.t 6]⟩,
 ⟨none,some 8,true,.mv,[.c (.int .i64 0)]⟩])
 (.blk 0 (.loop [5] Mc.q16_L0)))
 (.seq (.reg [
 ⟨none,some 4,true,.mv,[.c (.int .i64 (-1))]⟩])
 .ret)))
def Ks.q13 : List Nat := [0,1,4,5,7,8]
def Rs.q13 : List RV := [.tmp 4]
def Dl.q13 : List (List Nat) := [[5]]
def Mc.q13_L0 : MC := (.seq (.reg [
 ⟨none,some 9,false,.bin .lss,[.t 8,.t 7]⟩])
 (.seq (.ite (.t 9)
 .skip
 (.exit 0))
 (.seq (.blk 1 (.seq (.reg [
 ⟨none,some 10,false,.mv,[.t 8]⟩,
 ⟨none,some 5,true,.mv,[.t 10]⟩])
 (.seq (.reg [
 ⟨none,some 11,false,.mv,[.t 1]⟩,
 ⟨none,some 12,false,.mv,[.t 0]⟩,
 ⟨none,some 13,false,.mv,[.t 5]⟩,
 ⟨none,some 14,false,.iadr 1,[.t 12,.t 13]⟩,
 ⟨none,some 15,false,.ld 1 false,[.t 14]⟩,
 ⟨none,some 16,false,.callv,[.t 11,.t 15]⟩])
 (.ite (.t 16)
 (.seq (.reg [
 ⟨none,some 17,false,.mv,[.t 5]⟩,
 ⟨none,some 4,true,.mv,[.t 17]⟩])
 .ret)
 .skip))))
 (.reg [
 ⟨none,some 18,false,.bin .add,[.t 8,.c (.int .i64 1)]⟩,
 ⟨none,some 8,true,.mv,[.t 18]⟩]))))
def Mc.q13 : MC := (.seq (.reg [
 ⟨none,some 4,true,.mv,[.c (.int .i64 0)]⟩])
 (.seq (.seq (.reg [
 ⟨none,some 6,false,.mv,[.t 0]⟩,
 ⟨none,some 7,true,.len 1,[.t 6]⟩,
 ⟨none,some 8,true,.mv,[.c (.int .i64 0)]⟩])
 (.blk 0 (.loop [5] Mc.q13_L0)))
 (.seq (.reg [
 ⟨none,some 4,true,.mv,[.c (.int .i64 (-1))]⟩])
 .ret)))
def Ks.q35 : List Nat := [0,1,4]
def Rs.q35 : List RV := [.tmp 4]
def Dl.q35 : List (List Nat) := []
def Mc.q35 : MC := (.seq (.reg [
 ⟨none,some 4,true,.mv,[.c (.bool false)]⟩])
 (.seq (.reg [
 ⟨none,some 5,false,.mv,[.t 0]⟩,
 ⟨none,some 6,false,.mv,[.t 1]⟩,
 ⟨none,some 7,false,.call Fn.q42,[.t 5,.t 6]⟩,
 ⟨none,some 8,false,.bin .geq,[.t 7,.c (.int .i64 0)]⟩,
 ⟨none,some 4,true,.mv,[.t 8]⟩])
 .ret))
def Ks.tree_part_1 : List Nat := [0,2]
def Rs.tree_part_1 : List RV := [.tmp 2]
def Dl.tree_part_1 : List (List Nat) := []
def Mc.tree_part_1 : MC := (.seq (.reg [
 ⟨none,some 2,true,.mv,[.c (.bool false)]⟩])
 (.seq (.reg [
 ⟨none,some 3,false,.mv,[.t 0]⟩,
 ⟨none,some 4,false,.bin .geq,[.t 3,.c (.int .i32 97)]⟩,
 ⟨none,some 5,false,.mv,[.t 4]⟩,
 ⟨some (5,true),some 6,false,.mv,[.t 0]⟩,
 ⟨some (5,true),some 7,false,.bin .leq,[.t 6,.c (.int .i32 122)]⟩,
 ⟨none,some 8,false,.pick,[.t 5,.t 7,.c (.bool false)]⟩,
 ⟨none,some 9,false,.mv,[.t 8]⟩,
 ⟨some (9,false),some 10,false,.mv,[.t 0]⟩,
 ⟨some (9,false),some 11,false,.bin .geq,[.t 10,.c (.int .i32 48)]⟩,
 ⟨some (9,false),some 12,false,.mv,[.t 11]⟩,
 ⟨some (12,true),some 13,false,.mv,[.t 0]⟩,
 ⟨some (12,true),some 14,false,.bin .leq,[.t 13,.c (.int .i32 57)]⟩,
 ⟨some (9,false),some 15,false,.pick,[.t 12,.t 14,.c (.bool false)]⟩,
 ⟨none,some 16,false,.pick,[.t 9,.c (.bool true),.t 15]⟩,
 ⟨none,some 17,false,.mv,[.t 16]⟩,
 ⟨some (17,false),some 18,false,.mv,[.t 0]⟩,
 ⟨some (17,false),some 19,false,.bin .eql,[.t 18,.c (.int .i32 46)]⟩,
 ⟨none,some 20,false,.pick,[.t 17,.c (.bool true),.t 19]⟩,
 ⟨none,some 21,false,.mv,[.t 20]⟩,
 ⟨some (21,false),some 22,false,.mv,[.t 0]⟩,
 ⟨some (21,false),some 23,false,.bin .eql,[.t 22,.c (.int .i32 95)]⟩,
 ⟨none,some 24,false,.pick,[.t 21,.c (.bool true),.t 23]⟩,
 ⟨none,some 25,false,.mv,[.t 24]⟩,
 ⟨some (25,false),some 26,false,.mv,[.t 0]⟩,
 ⟨some (25,false),some 27,false,.bin .eql,[.t 26,.c (.int .i32 45)]⟩,
 ⟨none,some 28,false,.pick,[.t 25,.c (.bool true),.t 27]⟩,
 ⟨none,some 29,false,.un .not,[.t 28]⟩,
 ⟨none,some 2,true,.mv,[.t 29]⟩])
 .ret))
def Ks.q42 : List Nat := [0,1,4]
def Rs.q42 : List RV := [.tmp 4]
def Dl.q42 : List (List Nat) := []
def Mc.q42 : MC := (.seq (.reg [
 ⟨none,some 4,true,.mv,[.c (.int .i64 0)]⟩])
 (.seq (.reg [
 ⟨none,some 5,false,.mv,[.t 0]⟩,
 ⟨none,some 6,false,.mv,[.t 1]⟩,
 ⟨none,some 7,false,.call Fn.q43,[.t 5,.t 6,.c (.bool true)]⟩,
 ⟨none,some 4,true,.mv,[.t 7]⟩])
 .ret))
def Ks.q43 : List Nat := [0,1,2,6,7,8,10,11]
def Rs.q43 : List RV := [.tmp 6]
def Dl.q43 : List (List Nat) := [[7,8,11]]
def Mc.q43_L0 : MC := (.seq (.reg [
 ⟨none,some 11,true,.nxt,[.t 10]⟩,
 ⟨none,some 12,false,.ext 0,[.t 11]⟩])
 (.seq (.ite (.t 12)
 .skip
 (.exit 0))
 (.blk 1 (.seq (.reg [
 ⟨none,some 13,false,.ext 1,[.t 11]⟩,
 ⟨none,some 14,false,.ext 2,[.t 11]⟩,
 ⟨none,some 7,true,.mv,[.t 13]⟩,
 ⟨none,some 8,true,.mv,[.t 14]⟩])
 (.seq (.reg [
 ⟨none,some 15,false,.mv,[.t 1]⟩,
 ⟨none,some 16,false,.mv,[.t 8]⟩,
 ⟨none,some 17,false,.callv,[.t 15,.t 16]⟩,
 ⟨none,some 18,false,.mv,[.t 2]⟩,
 ⟨none,some 19,false,.eqB false,[.t 17,.t 18]⟩])
 (.ite (.t 19)
 (.seq (.reg [
 ⟨none,some 20,false,.mv,[.t 7]⟩,
 ⟨none,some 6,true,.mv,[.t 20]⟩])
 .ret)
 .skip))))))
def Mc.q43 : MC := (.seq (.reg [
 ⟨none,some 6,true,.mv,[.c (.int .i64 0)]⟩])
 (.seq (.seq (.reg [
 ⟨none,some 9,false,.mv,[.t 0]⟩,
 ⟨none,some 10,true,.rng,[.t 9]⟩])
 (.blk 0 (.loop [7,8,11] Mc.q43_L0)))
 (.seq (.reg [
 ⟨none,some 6,true,.mv,[.c (.int .i64 (-1))]⟩])
 .ret)))
def Ks.digest_Sum : List Nat := [0,2,3]
def Rs.digest_Sum : List RV := [.tmp 2]
def Dl.digest_Sum : List (List Nat) := []
def Mc.digest_Sum : MC := (.seq (.reg [
 ⟨none,some 2,true,.mv,[.c (.str [])]⟩])
 (.seq (.reg [
 ⟨none,some 4,false,.call Fn.digest_New,[]⟩,
 ⟨none,some 3,true,.mv,[.t 4]⟩])
 (.seq (.reg [
 ⟨none,some 5,false,.mv,[.t 3]⟩,
 ⟨none,some 6,false,.mv,[.t 0]⟩,
 ⟨none,some 7,false,.bsl false 1,[.t 6]⟩,
 ⟨none,some 8,false,.call Fn.q29,[.t 5,.t 7]⟩])
 (.seq (.reg [
 ⟨none,some 9,false,.mv,[.t 3]⟩,
 ⟨none,some 10,false,.call Fn.q37,[.t 9]⟩,
 ⟨none,some 2,true,.mv,[.t 10]⟩])
 .ret))))
def Ks.digest_New : List Nat := [0]
def Rs.digest_New : List RV := [.tmp 0]
def Dl.digest_New : List (List Nat) := []
def Mc.digest_New : MC := (.seq (.reg [
 ⟨none,some 0,true,.mv,[.c (.nilp)]⟩])
 (.seq (.reg [
 ⟨none,some 1,false,.bld [.int .u64 0,.int .u64 0,.int .u64 0,.int .u64 0,.int .u64 0,.int .u64 0,.int .u64 0,.int .u64 0,.int .u64 0,.int .u64 0,.int .u64 0,.int .u64 0,.int .u64 0,.int .u64 0,.int .u64 0,.int .u64 0,.int .u64 0,.int .u64 0,.int .u64 0,.int .u64 0,.int .u64 0,.int .u64 0,.int .u64 0,.int .u64 0,.int .u64 0,.nils,.int .i64 0,.int .u64 0,.int .u64 0,.int .u64 0,.int .u64 0,.int .u64 0,.int .u64 0,.int .u64 0,.int .u64 0,.int .u64 0,.int .u64 0,.int .u64 0,.int .u64 0,.int .u64 0,.int .u64 0,.int .u64 0,.int .u64 0,.int .u64 0,.int .u64 0,.int .u64 0,.int .u64 0,.int .u64 0,.int .u64 0,.int .u64 0,.int .u64 0,.int .u64 0,.str [],.str []] [],[]⟩,
 ⟨none,some 2,false,.box,[.t 1]⟩,
 ⟨none,some 0,true,.mv,[.t 2]⟩])
 .ret))
def Ks.q29 : List Nat := [0,1,4,6,7,8,9]
def Rs.q29 : List RV := [.tmp 4]
def Dl.q29 : List (List Nat) := [[6],[]]
def Ow.__digest_Sponge__Write : List Nat := [42,49]
def Mc.q29_L1 : MC := (.seq (.seq (.reg [
 ⟨none,some 31,false,.mv,[.t 0]⟩,
 ⟨none,some 32,false,.nilck,[.t 31]⟩,
 ⟨none,some 33,false,.fadr 25,[.t 32]⟩,
 ⟨none,some 34,false,.ld 1 false,[.t 33]⟩,
 ⟨none,some 35,false,.len 1,[.t 34]⟩,
 ⟨none,some 36,false,.bin .geq,[.t 35,.c (.int .i64 136)]⟩])
 (.ite (.t 36)
 .skip
 (.exit 2)))
 (.blk 3 (.seq (.reg [
 ⟨none,some 37,false,.mv,[.t 0]⟩,
 ⟨none,some 38,false,.mv,[.t 0]⟩,
 ⟨none,some 39,false,.nilck,[.t 38]⟩,
 ⟨none,some 40,false,.fadr 25,[.t 39]⟩,
 ⟨none,some 41,false,.ld 1 false,[.t 40]⟩,
 ⟨none,some 42,false,.slcf 1 false true false,[.t 41,.c (.int .i64 136)]⟩,
 ⟨none,some 43,false,.call Fn.q24,[.t 37,.t 42]⟩])
 (.reg [
 ⟨none,some 44,false,.mv,[.t 0]⟩,
 ⟨none,some 45,false,.mv,[.t 0]⟩,
 ⟨none,some 46,false,.nilck,[.t 45]⟩,
 ⟨none,some 47,false,.fadr 25,[.t 46]⟩,
 ⟨none,some 48,false,.ld 1 false,[.t 47]⟩,
 ⟨none,some 49,false,.slcf 1 true false false,[.t 48,.c (.int .i64 136)]⟩,
 ⟨none,some 50,false,.app false 1 1,[.c (.nils),.t 49]⟩,
 ⟨none,some 51,false,.nilck,[.t 44]⟩,
 ⟨none,some 52,false,.fadr 25,[.t 51]⟩,
 ⟨none,none,false,.st 1,[.t 52,.t 50]⟩]))))
def Mc.q29_L0 : MC := (.seq (.reg [
 ⟨none,some 10,false,.bin .lss,[.t 9,.t 8]⟩])
 (.seq (.ite (.t 10)
 .skip
 (.exit 0))
 (.seq (.blk 1 (.seq (.reg [
 ⟨none,some 11,false,.iadr 1,[.t 7,.t 9]⟩,
 ⟨none,some 12,false,.ld 1 false,[.t 11]⟩,
 ⟨none,some 6,true,.mv,[.t 12]⟩])
 (.seq (.reg [
 ⟨none,some 13,false,.mv,[.t 0]⟩,
 ⟨none,some 14,false,.nilck,[.t 13]⟩,
 ⟨none,some 15,false,.fadr 26,[.t 14]⟩,
 ⟨none,some 16,false,.ld 1 false,[.t 15]⟩,
 ⟨none,some 17,false,.mv,[.t 6]⟩,
 ⟨none,some 18,false,.len 0,[.t 17]⟩,
 ⟨none,some 19,false,.bin .add,[.t 16,.t 18]⟩,
 ⟨none,some 20,false,.nilck,[.t 13]⟩,
 ⟨none,some 21,false,.fadr 26,[.t 20]⟩,
 ⟨none,none,false,.st 1,[.t 21,.t 19]⟩])
 (.seq (.reg [
 ⟨none,some 22,false,.mv,[.t 0]⟩,
 ⟨none,some 23,false,.mv,[.t 0]⟩,
 ⟨none,some 24,false,.nilck,[.t 23]⟩,
 ⟨none,some 25,false,.fadr 25,[.t 24]⟩,
 ⟨none,some 26,false,.ld 1 false,[.t 25]⟩,
 ⟨none,some 27,false,.mv,[.t 6]⟩,
 ⟨none,some 28,false,.app true 1 1,[.t 26,.t 27]⟩,
 ⟨none,some 29,false,.nilck,[.t 22]⟩,
 ⟨none,some 30,false,.fadr 25,[.t 29]⟩,
 ⟨none,none,false,.st 1,[.t 30,.t 28]⟩])
 (.blk 2 (.loop [] Mc.q29_L1))))))
 (.reg [
 ⟨none,some 53,false,.bin .add,[.t 9,.c (.int .i64 1)]⟩,
 ⟨none,some 9,true,.mv,[.t 53]⟩]))))
def Mc.q29 : MC := (.seq (.reg [
 ⟨none,some 4,true,.mv,[.c (.int .i64 0)]⟩])
 (.seq (.seq (.reg [
 ⟨none,some 7,true,.mv,[.t 1]⟩,
 ⟨none,some 8,true,.len 1,[.t 7]⟩,
 ⟨none,some 9,true,.mv,[.c (.int .i64 0)]⟩])
 (.blk 0 (.loop [6] Mc.q29_L0)))
 (.seq (.reg [
 ⟨none,some 54,false,.mv,[.t 0]⟩,
 ⟨none,some 55,false,.nilck,[.t 54]⟩,
 ⟨none,some 56,false,.fadr 26,[.t 55]⟩,
 ⟨none,some 57,false,.ld 1 false,[.t 56]⟩,
 ⟨none,some 4,true,.mv,[.t 57]⟩])
 .ret)))
def Ks.q37 : List Nat := [0,2,3,4,5,6,65,66]
def Rs.q37 : List RV := [.tmp 2]
def Dl.q37 : List (List Nat) := [[6]]
def Mc.q37_L0 : MC := (.seq (.reg [
 ⟨none,some 67,false,.bin .lss,[.t 66,.t 65]⟩])
 (.seq (.ite (.t 67)
 .skip
 (.exit 0))
 (.seq (.blk 1 (.seq (.reg [
 ⟨none,some 68,false,.mv,[.t 66]⟩,
 ⟨none,some 6,true,.mv,[.t 68]⟩])
 (.reg [
 ⟨none,some 69,false,.mv,[.t 5]⟩,
 ⟨none,some 70,false,.mv,[.t 6]⟩,
 ⟨none,some 71,false,.mv,[.t 3]⟩,
 ⟨none,some 72,false,.mv,[.t 6]⟩,
 ⟨none,some 73,false,.bin .quo,[.t 72,.c (.int .i64 8)]⟩,
 ⟨none,some 74,false,.nilck,[.t 71]⟩,
 ⟨none,some 75,false,.fadr 0,[.t 74]⟩,
 ⟨none,some 76,false,.aadr 25 1,[.t 75,.t 73]⟩,
 ⟨none,some 77,false,.ld 1 false,[.t 76]⟩,
 ⟨none,some 78,false,.mv,[.t 6]⟩,
 ⟨none,some 79,false,.bin .rem,[.t 78,.c (.int .i64 8)]⟩,
 ⟨none,some 80,false,.bin .mul,[.c (.int .i64 8),.t 79]⟩,
 ⟨none,some 81,false,.bin .shr,[.t 77,.t 80]⟩,
 ⟨none,some 82,false,.conv .u8,[.t 81]⟩,
 ⟨none,some 83,false,.iadr 1,[.t 69,.t 70]⟩,
 ⟨none,none,false,.st 1,[.t 83,.t 82]⟩])))
 (.reg [
 ⟨none,some 84,false,.bin .add,[.t 66,.c (.int .i64 1)]⟩,
 ⟨none,some 66,true,.mv,[.t 84]⟩]))))
def Mc.q37 : MC := (.seq (.reg [
 ⟨none,some 2,true,.mv,[.c (.str [])]⟩])
 (.seq (.seq (.rgd [
 ⟨none,some 7,false,.mv,[.t 0]⟩,
 ⟨none,some 8,false,.nilck,[.t 7]⟩,
 ⟨none,some 9,false,.fadr 53,[.t 8]⟩,
 ⟨none,some 10,false,.ld 1 false,[.t 9]⟩,
 ⟨none,some 11,false,.bin .neq,[.t 10,.c (.str [])]⟩,
 ⟨none,some 12,false,.mv,[.t 11]⟩,
 ⟨some (12,true),some 13,false,.mv,[.t 0]⟩,
 ⟨some (12,true),some 14,false,.nilck,[.t 13]⟩,
 ⟨some (12,true),some 15,false,.fadr 27,[.t 14]⟩,
 ⟨some (12,true),some 16,false,.ld 25 true,[.t 15]⟩,
 ⟨some (12,true),some 17,false,.mv,[.t 0]⟩,
 ⟨some (12,true),some 18,false,.nilck,[.t 17]⟩,
 ⟨some (12,true),some 19,false,.fadr 0,[.t 18]⟩,
 ⟨some (12,true),some 20,false,.ld 25 true,[.t 19]⟩,
 ⟨some (12,true),some 21,false,.bot,[]⟩,
 ⟨none,some 22,false,.pick,[.t 12,.t 21,.c (.bool false)]⟩,
 ⟨none,some 23,false,.mv,[.t 22]⟩,
 ⟨some (23,true),some 24,false,.mv,[.t 0]⟩,
 ⟨some (23,true),some 25,false,.nilck,[.t 24]⟩,
 ⟨some (23,true),some 26,false,.fadr 52,[.t 25]⟩,
 ⟨some (23,true),some 27,false,.ld 1 false,[.t 26]⟩,
 ⟨some (23,true),some 28,false,.mv,[.t 0]⟩,
 ⟨some (23,true),some 29,false,.nilck,[.t 28]⟩,
 ⟨some (23,true),some 30,false,.fadr 25,[.t 29]⟩,
 ⟨some (23,true),some 31,false,.ld 1 false,[.t 30]⟩,
 ⟨some (23,true),some 32,false,.b2s,[.t 31]⟩,
 ⟨some (23,true),some 33,false,.bin .eql,[.t 27,.t 32]⟩,
 ⟨none,some 34,false,.pick,[.t 23,.t 33,.c (.bool false)]⟩])
 (.ite (.t 34)
 (.seq (.reg [
 ⟨none,some 35,false,.mv,[.t 0]⟩,
 ⟨none,some 36,false,.nilck,[.t 35]⟩,
 ⟨none,some 37,false,.fadr 53,[.t 36]⟩,
 ⟨none,some 38,false,.ld 1 false,[.t 37]⟩,
 ⟨none,some 2,true,.mv,[.t 38]⟩])
 .ret)
 .skip))
 (.seq (.reg [
 ⟨none,some 39,false,.mv,[.t 0]⟩,
 ⟨none,some 40,false,.call Fn.q30,[.t 39]⟩,
 ⟨none,some 3,true,.mv,[.t 40]⟩])
 (.seq (.reg [
 ⟨none,some 41,false,.mksl [.int .u8 0] 1,[.c (.int .i64 136),.c (.int .i64 136)]⟩,
 ⟨none,some 4,true,.mv,[.t 41]⟩])
 (.seq (.reg [
 ⟨none,some 42,false,.mv,[.t 4]⟩,
 ⟨none,some 43,false,.mv,[.t 3]⟩,
 ⟨none,some 44,false,.nilck,[.t 43]⟩,
 ⟨none,some 45,false,.fadr 25,[.t 44]⟩,
 ⟨none,some 46,false,.ld 1 false,[.t 45]⟩,
 ⟨none,some 47,false,.cpy false 1,[.t 42,.t 46]⟩])
 (.seq (.reg [
 ⟨none,some 48,false,.mv,[.t 4]⟩,
 ⟨none,some 49,false,.mv,[.t 3]⟩,
 ⟨none,some 50,false,.nilck,[.t 49]⟩,
 ⟨none,some 51,false,.fadr 25,[.t 50]⟩,
 ⟨none,some 52,false,.ld 1 false,[.t 51]⟩,
 ⟨none,some 53,false,.len 1,[.t 52]⟩,
 ⟨none,some 54,false,.iadr 1,[.t 48,.t 53]⟩,
 ⟨none,none,false,.st 1,[.t 54,.c (.int .u8 6)]⟩])
 (.seq (.reg [
 ⟨none,some 55,false,.mv,[.t 4]⟩,
 ⟨none,some 56,false,.iadr 1,[.t 55,.c (.int .i64 135)]⟩,
 ⟨none,some 57,false,.ld 1 false,[.t 56]⟩,
 ⟨none,some 58,false,.bin .xor,[.t 57,.c (.int .u8 128)]⟩,
 ⟨none,some 59,false,.iadr 1,[.t 55,.c (.int .i64 135)]⟩,
 ⟨none,none,false,.st 1,[.t 59,.t 58]⟩])
 (.seq (.reg [
 ⟨none,some 60,false,.mv,[.t 3]⟩,
 ⟨none,some 61,false,.mv,[.t 4]⟩,
 ⟨none,some 62,false,.call Fn.q24,[.t 60,.t 61]⟩])
 (.seq (.reg [
 ⟨none,some 63,false,.mksl [.int .u8 0] 1,[.c (.int .i64 32),.c (.int .i64 32)]⟩,
 ⟨none,some 5,true,.mv,[.t 63]⟩])
 (.seq (.seq (.reg [
 ⟨none,some 64,false,.mv,[.t 5]⟩,
 ⟨none,some 65,true,.len 1,[.t 64]⟩,
 ⟨none,some 66,true,.mv,[.c (.int .i64 0)]⟩])
 (.blk 0 (.loop [6] Mc.q37_L0)))
 (.seq (.rgd [
 ⟨none,some 85,false,.mv,[.t 0]⟩,
 ⟨none,some 86,false,.mv,[.t 0]⟩,
 ⟨none,some 87,false,.mv,[.t 0]⟩,
 ⟨none,some 88,false,.mv,[.t 0]⟩,
 ⟨none,some 89,false,.nilck,[.t 88]⟩,
 ⟨none,some 90,false,.fadr 0,[.t 89]⟩,
 ⟨none,some 91,false,.ld 25 true,[.t 90]⟩,
 ⟨none,some 92,false,.mv,[.t 0]⟩,
 ⟨none,some 93,false,.nilck,[.t 92]⟩,
 ⟨none,some 94,false,.fadr 25,[.t 93]⟩,
 ⟨none,some 95,false,.ld 1 false,[.t 94]⟩,
 ⟨none,some 96,false,.b2s,[.t 95]⟩,
 ⟨none,some 97,false,.mv,[.t 5]⟩,
 ⟨none,some 98,false,.b2s,[.t 97]⟩,
 ⟨none,some 99,false,.nilck,[.t 85]⟩,
 ⟨none,some 100,false,.fadr 27,[.t 99]⟩,
 ⟨none,none,false,.st 25,[.t 100,.t 91]⟩,
 ⟨none,some 101,false,.nilck,[.t 86]⟩,
 ⟨none,some 102,false,.fadr 52,[.t 101]⟩,
 ⟨none,none,false,.st 1,[.t 102,.t 96]⟩,
 ⟨none,some 103,false,.nilck,[.t 87]⟩,
 ⟨none,some 104,false,.fadr 53,[.t 103]⟩,
 ⟨none,none,false,.st 1,[.t 104,.t 98]⟩])
 (.seq (.reg [
 ⟨none,some 105,false,.mv,[.t 0]⟩,
 ⟨none,some 106,false,.nilck,[.t 105]⟩,
 ⟨none,some 107,false,.fadr 53,[.t 106]⟩,
 ⟨none,some 108,false,.ld 1 false,[.t 107]⟩,
 ⟨none,some 2,true,.mv,[.t 108]⟩])
 .ret))))))))))))
def Ks.q24 : List Nat := [0,1,4,6,7]
def Rs.q24 : List RV := []
def Dl.q24 : List (List Nat) := [[4]]
def Mc.q24_L0 : MC := (.seq (.reg [
 ⟨none,some 8,false,.bin .lss,[.t 7,.t 6]⟩])
 (.seq (.ite (.t 8)
 .skip
 (.exit 0))
 (.seq (.blk 1 (.seq (.reg [
 ⟨none,some 9,false,.mv,[.t 7]⟩,
 ⟨none,some 4,true,.mv,[.t 9]⟩])
 (.rgd [
 ⟨none,some 10,false,.mv,[.t 0]⟩,
 ⟨none,some 11,false,.mv,[.t 4]⟩,
 ⟨none,some 12,false,.bin .quo,[.t 11,.c (.int .i64 8)]⟩,
 ⟨none,some 13,false,.nilck,[.t 10]⟩,
 ⟨none,some 14,false,.fadr 0,[.t 13]⟩,
 ⟨none,some 15,false,.aadr 25 1,[.t 14,.t 12]⟩,
 ⟨none,some 16,false,.ld 1 false,[.t 15]⟩,
 ⟨none,some 17,false,.mv,[.t 1]⟩,
 ⟨none,some 18,false,.mv,[.t 4]⟩,
 ⟨none,some 19,false,.iadr 1,[.t 17,.t 18]⟩,
 ⟨none,some 20,false,.ld 1 false,[.t 19]⟩,
 ⟨none,some 21,false,.conv .u64,[.t 20]⟩,
 ⟨none,some 22,false,.mv,[.t 4]⟩,
 ⟨none,some 23,false,.bin .rem,[.t 22,.c (.int .i64 8)]⟩,
 ⟨none,some 24,false,.bin .mul,[.c (.int .i64 8),.t 23]⟩,
 ⟨none,some 25,false,.bin .shl,[.t 21,.t 24]⟩,
 ⟨none,some 26,false,.bin .xor,[.t 16,.t 25]⟩,
 ⟨none,some 27,false,.nilck,[.t 10]⟩,
 ⟨none,some 28,false,.fadr 0,[.t 27]⟩,
 ⟨none,some 29,false,.aadr 25 1,[.t 28,.t 12]⟩,
 ⟨none,none,false,.st 1,[.t 29,.t 26]⟩])))
 (.reg [
 ⟨none,some 30,false,.bin .add,[.t 7,.c (.int .i64 1)]⟩,
 ⟨none,some 7,true,.mv,[.t 30]⟩]))))
def Mc.q24 : MC := (.seq (.seq (.reg [
 ⟨none,some 5,false,.mv,[.t 1]⟩,
 ⟨none,some 6,true,.len 1,[.t 5]⟩,
 ⟨none,some 7,true,.mv,[.c (.int .i64 0)]⟩])
 (.blk 0 (.loop [4] Mc.q24_L0)))
 (.reg [
 ⟨none,some 31,false,.mv,[.t 0]⟩,
 ⟨none,some 32,false,.mv,[.t 0]⟩,
 ⟨none,some 33,false,.nilck,[.t 32]⟩,
 ⟨none,some 34,false,.fadr 0,[.t 33]⟩,
 ⟨none,some 35,false,.ld 25 true,[.t 34]⟩,
 ⟨none,some 36,false,.call Fn.q62,[.t 35]⟩,
 ⟨none,some 37,false,.nilck,[.t 31]⟩,
 ⟨none,some 38,false,.fadr 0,[.t 37]⟩,
 ⟨none,none,false,.st 25,[.t 38,.t 36]⟩]))
def Ks.q30 : List Nat := [0,2,3]
def Rs.q30 : List RV := [.tmp 2]
def Dl.q30 : List (List Nat) := []
def Mc.q30 : MC := (.seq (.reg [
 ⟨none,some 2,true,.mv,[.c (.nilp)]⟩])
 (.seq (.reg [
 ⟨none,some 4,false,.mv,[.t 0]⟩,
 ⟨none,some 5,false,.nilck,[.t 4]⟩,
 ⟨none,some 6,false,.ld 54 true,[.t 5]⟩,
 ⟨none,some 3,true,.alloc [.int .u64 0,.int .u64 0,.int .u64 0,.int .u64 0,.int .u64 0,.int .u64 0,.int .u64 0,.int .u64 0,.int .u64 0,.int .u64 0,.int .u64 0,.int .u64 0,.int .u64 0,.int .u64 0,.int .u64 0,.int .u64 0,.int .u64 0,.int .u64 0,.int .u64 0,.int .u64 0,.int .u64 0,.int .u64 0,.int .u64 0,.int .u64 0,.int .u64 0,.nils,.int .i64 0,.int .u64 0,.int .u64 0,.int .u64 0,.int .u64 0,.int .u64 0,.int .u64 0,.int .u64 0,.int .u64 0,.int .u64 0,.int .u64 0,.int .u64 0,.int .u64 0,.int .u64 0,.int .u64 0,.int .u64 0,.int .u64 0,.int .u64 0,.int .u64 0,.int .u64 0,.int .u64 0,.int .u64 0,.int .u64 0,.int .u64 0,.int .u64 0,.int .u64 0,.str [],.str []],[]⟩,
 ⟨none,none,false,.st 54,[.t 3,.t 6]⟩])
 (.seq (.reg [
 ⟨none,some 7,false,.mv,[.t 0]⟩,
 ⟨none,some 8,false,.nilck,[.t 7]⟩,
 ⟨none,some 9,false,.fadr 25,[.t 8]⟩,
 ⟨none,some 10,false,.ld 1 false,[.t 9]⟩,
 ⟨none,some 11,false,.app false 1 1,[.c (.nils),.t 10]⟩,
 ⟨none,some 12,false,.fadr 25,[.t 3]⟩,
 ⟨none,none,false,.st 1,[.t 12,.t 11]⟩])
 (.seq (.reg [
 ⟨none,some 2,true,.mv,[.t 3]⟩])
 .ret))))
def Ks.q62 : List Nat := [0,1,2,3,5,7,8]
def Rs.q62 : List RV := [.cell 2 25 true]
def Dl.q62 : List (List Nat) := [[5]]
def Mc.q62_L0 : MC := (.seq (.reg [
 ⟨none,some 9,false,.bin .lss,[.t 8,.c (.int .i64 24)]⟩])
 (.seq (.ite (.t 9)
 .skip
 (.exit 0))
 (.seq (.blk 1 (.seq (.reg [
 ⟨none,some 10,false,.iarr 24 1 false,[.t 7,.t 8]⟩,
 ⟨none,some 5,true,.mv,[.t 10]⟩])
 (.reg [
 ⟨none,some 11,false,.ld 25 true,[.t 1]⟩,
 ⟨none,some 12,false,.ld 25 true,[.t 3]⟩,
 ⟨none,some 13,false,.mv,[.t 5]⟩,
 ⟨none,some 14,false,.call Fn.q75,[.t 11,.t 12,.t 13]⟩,
 ⟨none,none,false,.st 25,[.t 1,.t 14]⟩])))
 (.reg [
 ⟨none,some 15,false,.bin .add,[.t 8,.c (.int .i64 1)]⟩,
 ⟨none,some 8,true,.mv,[.t 15]⟩]))))
def Mc.q62 : MC := (.seq (.reg [
 ⟨none,some 1,true,.box,[.t 0]⟩,
 ⟨none,some 2,true,.alloc [.int .u64 0,.int .u64 0,.int .u64 0,.int .u64 0,.int .u64 0,.int .u64 0,.int .u64 0,.int .u64 0,.int .u64 0,.int .u64 0,.int .u64 0,.int .u64 0,.int .u64 0,.int .u64 0,.int .u64 0,.int .u64 0,.int .u64 0,.int .u64 0,.int .u64 0,.int .u64 0,.int .u64 0,.int .u64 0,.int .u64 0,.int .u64 0,.int .u64 0],[]⟩])
 (.seq (.reg [
 ⟨none,some 6,false,.call Fn.q63,[]⟩,
 ⟨none,some 3,true,.alloc [.int .i64 0,.int .i64 0,.int .i64 0,.int .i64 0,.int .i64 0,.int .i64 0,.int .i64 0,.int .i64 0,.int .i64 0,.int .i64 0,.int .i64 0,.int .i64 0,.int .i64 0,.int .i64 0,.int .i64 0,.int .i64 0,.int .i64 0,.int .i64 0,.int .i64 0,.int .i64 0,.int .i64 0,.int .i64 0,.int .i64 0,.int .i64 0,.int .i64 0],[]⟩,
 ⟨none,none,false,.st 25,[.t 3,.t 6]⟩])
 (.seq (.seq (.reg [
 ⟨none,some 7,true,.call Fn.q55,[]⟩,
 ⟨none,some 8,true,.mv,[.c (.int .i64 0)]⟩])
 (.blk 0 (.loop [5] Mc.q62_L0)))
 (.seq (.reg [
 ⟨none,some 16,false,.ld 25 true,[.t 1]⟩,
 ⟨none,none,false,.st 25,[.t 2,.t 16]⟩])
 .ret))))
def Ks.q63 : List Nat := [0]
def Rs.q63 : List RV := [.cell 0 25 true]
def Dl.q63 : List (List Nat) := []
def Mc.q63 : MC := (.seq (.reg [
 ⟨none,some 0,true,.alloc [.int .i64 0,.int .i64 0,.int .i64 0,.int .i64 0,.int .i64 0,.int .i64 0,.int .i64 0,.int .i64 0,.int .i64 0,.int .i64 0,.int .i64 0,.int .i64 0,.int .i64 0,.int .i64 0,.int .i64 0,.int .i64 0,.int .i64 0,.int .i64 0,.int .i64 0,.int .i64 0,.int .i64 0,.int .i64 0,.int .i64 0,.int .i64 0,.int .i64 0],[]⟩])
 (.seq (.reg [
 ⟨none,some 1,false,.bld [.int .i64 0,.int .i64 0,.int .i64 0,.int .i64 0,.int .i64 0,.int .i64 0,.int .i64 0,.int .i64 0,.int .i64 0,.int .i64 0,.int .i64 0,.int .i64 0,.int .i64 0,.int .i64 0,.int .i64 0,.int .i64 0,.int .i64 0,.int .i64 0,.int .i64 0,.int .i64 0,.int .i64 0,.int .i64 0,.int .i64 0,.int .i64 0,.int .i64 0] [(0,1),(1,1),(2,1),(3,1),(4,1),(5,1),(6,1),(7,1),(8,1),(9,1),(10,1),(11,1),(12,1),(13,1),(14,1),(15,1),(16,1),(17,1),(18,1),(19,1),(20,1),(21,1),(22,1),(23,1),(24,1)],[.c (.int .i64 0),.c (.int .i64 1),.c (.int .i64 62),.c (.int .i64 28),.c (.int .i64 27),.c (.int .i64 36),.c (.int .i64 44),.c (.int .i64 6),.c (.int .i64 55),.c (.int .i64 20),.c (.int .i64 3),.c (.int .i64 10),.c (.int .i64 43),.c (.int .i64 25),.c (.int .i64 39),.c (.int .i64 41),.c (.int .i64 45),.c (.int .i64 15),.c (.int .i64 21),.c (.int .i64 8),.c (.int .i64 18),.c (.int .i64 2),.c (.int .i64 61),.c (.int .i64 56),.c (.int .i64 14)]⟩,
 ⟨none,none,false,.st 25,[.t 0,.t 1]⟩])
 .ret))
def Ks.q55 : List Nat := [0]
def Rs.q55 : List RV := [.cell 0 24 true]
def Dl.q55 : List (List Nat) := []
def Mc.q55 : MC := (.seq (.reg [
 ⟨none,some 0,true,.alloc [.int .u64 0,.int .u64 0,.int .u64 0,.int .u64 0,.int .u64 0,.int .u64 0,.int .u64 0,.int .u64 0,.int .u64 0,.int .u64 0,.int .u64 0,.int .u64 0,.int .u64 0,.int .u64 0,.int .u64 0,.int .u64 0,.int .u64 0,.int .u64 0,.int .u64 0,.int .u64 0,.int .u64 0,.int .u64 0,.int .u64 0,.int .u64 0],[]⟩])
 (.seq (.reg [
 ⟨none,some 1,false,.bld [.int .u64 0,.int .u64 0,.int .u64 0,.int .u64 0,.int .u64 0,.int .u64 0,.int .u64 0,.int .u64 0,.int .u64 0,.int .u64 0,.int .u64 0,.int .u64 0,.int .u64 0,.int .u64 0,.int .u64 0,.int .u64 0,.int .u64 0,.int .u64 0,.int .u64 0,.int .u64 0,.int .u64 0,.int .u64 0,.int .u64 0,.int .u64 0] [(0,1),(1,1),(2,1),(3,1),(4,1),(5,1),(6,1),(7,1),(8,1),(9,1),(10,1),(11,1),(12,1),(13,1),(14,1),(15,1),(16,1),(17,1),(18,1),(19,1),(20,1),(21,1),(22,1),(23,1)],[.c (.int .u64 1),.c (.int .u64 32898),.c (.int .u64 9223372036854808714),.c (.int .u64 9223372039002292224),.c (.int .u64 32907),.c (.int .u64 2147483649),.c (.int .u64 9223372039002292353),.c (.int .u64 9223372036854808585),.c (.int .u64 138),.c (.int .u64 136),.c (.int .u64 2147516425),.c (.int .u64 2147483658),.c (.int .u64 2147516555),.c (.int .u64 9223372036854775947),.c (.int .u64 9223372036854808713),.c (.int .u64 9223372036854808579),.c (.int .u64 9223372036854808578),.c (.int .u64 9223372036854775936),.c (.int .u64 32778),.c (.int .u64 9223372039002259466),.c (.int .u64 9223372039002292353),.c (.int .u64 9223372036854808704),.c (.int .u64 2147483649),.c (.int .u64 9223372039002292232)]⟩,
 ⟨none,none,false,.st 24,[.t 0,.t 1]⟩])
 .ret))
def Ks.q75 : List Nat := [0,1,2,3,4,6,7,8,9,10,11,12,13,14,15,16,17,18,30,31,69]
def Rs.q75 : List RV := [.cell 6 25 true]
def Dl.q75 : List (List Nat) := [[8,9],[11,12,13,14],[15,16]]
def Mc.q75_L0 : MC := (.seq (.reg [
 ⟨none,some 19,false,.bin .lss,[.t 18,.c (.int .i64 25)]⟩])
 (.seq (.ite (.t 19)
 .skip
 (.exit 0))
 (.seq (.blk 1 (.seq (.reg [
 ⟨none,some 20,false,.mv,[.t 18]⟩,
 ⟨none,some 21,false,.iarr 25 1 false,[.t 17,.t 18]⟩,
 ⟨none,some 8,true,.mv,[.t 20]⟩,
 ⟨none,some 9,true,.mv,[.t 21]⟩])
 (.reg [
 ⟨none,some 22,false,.mv,[.t 8]⟩,
 ⟨none,some 23,false,.bin .rem,[.t 22,.c (.int .i64 5)]⟩,
 ⟨none,some 24,false,.aadr 5 1,[.t 7,.t 23]⟩,
 ⟨none,some 25,false,.ld 1 false,[.t 24]⟩,
 ⟨none,some 26,false,.mv,[.t 9]⟩,
 ⟨none,some 27,false,.bin .xor,[.t 25,.t 26]⟩,
 ⟨none,some 28,false,.aadr 5 1,[.t 7,.t 23]⟩,
 ⟨none,none,false,.st 1,[.t 28,.t 27]⟩])))
 (.reg [
 ⟨none,some 29,false,.bin .add,[.t 18,.c (.int .i64 1)]⟩,
 ⟨none,some 18,true,.mv,[.t 29]⟩]))))
def Mc.q75_L1 : MC := (.seq (.reg [
 ⟨none,some 32,false,.bin .lss,[.t 31,.c (.int .i64 25)]⟩])
 (.seq (.ite (.t 32)
 .skip
 (.exit 2))
 (.seq (.blk 3 (.seq (.reg [
 ⟨none,some 33,false,.mv,[.t 31]⟩,
 ⟨none,some 34,false,.iarr 25 1 false,[.t 30,.t 31]⟩,
 ⟨none,some 11,true,.mv,[.t 33]⟩,
 ⟨none,some 12,true,.mv,[.t 34]⟩])
 (.seq (.reg [
 ⟨none,some 35,false,.mv,[.t 11]⟩,
 ⟨none,some 36,false,.bin .rem,[.t 35,.c (.int .i64 5)]⟩,
 ⟨none,some 37,false,.mv,[.t 11]⟩,
 ⟨none,some 38,false,.bin .quo,[.t 37,.c (.int .i64 5)]⟩,
 ⟨none,some 13,true,.mv,[.t 36]⟩,
 ⟨none,some 14,true,.mv,[.t 38]⟩])
 (.seq (.rgd [
 ⟨none,some 39,false,.mv,[.t 12]⟩,
 ⟨none,some 40,false,.mv,[.t 13]⟩,
 ⟨none,some 41,false,.bin .add,[.t 40,.c (.int .i64 4)]⟩,
 ⟨none,some 42,false,.bin .rem,[.t 41,.c (.int .i64 5)]⟩,
 ⟨none,some 43,false,.aadr 5 1,[.t 7,.t 42]⟩,
 ⟨none,some 44,false,.ld 1 false,[.t 43]⟩,
 ⟨none,some 45,false,.mv,[.t 13]⟩,
 ⟨none,some 46,false,.bin .add,[.t 45,.c (.int .i64 1)]⟩,
 ⟨none,some 47,false,.bin .rem,[.t 46,.c (.int .i64 5)]⟩,
 ⟨none,some 48,false,.aadr 5 1,[.t 7,.t 47]⟩,
 ⟨none,some 49,false,.ld 1 false,[.t 48]⟩,
 ⟨none,some 50,false,.call Fn.q31,[.t 49,.c (.int .i64 1)]⟩,
 ⟨none,some 51,false,.bin .xor,[.t 44,.t 50]⟩,
 ⟨none,some 52,false,.bin .xor,[.t 39,.t 51]⟩,
 ⟨none,some 12,true,.mv,[.t 52]⟩])
 (.reg [
 ⟨none,some 53,false,.mv,[.t 14]⟩,
 ⟨none,some 54,false,.mv,[.t 13]⟩,
 ⟨none,some 55,false,.bin .mul,[.c (.int .i64 2),.t 54]⟩,
 ⟨none,some 56,false,.mv,[.t 14]⟩,
 ⟨none,some 57,false,.bin .mul,[.c (.int .i64 3),.t 56]⟩,
 ⟨none,some 58,false,.bin .add,[.t 55,.t 57]⟩,
 ⟨none,some 59,false,.bin .rem,[.t 58,.c (.int .i64 5)]⟩,
 ⟨none,some 60,false,.bin .mul,[.c (.int .i64 5),.t 59]⟩,
 ⟨none,some 61,false,.bin .add,[.t 53,.t 60]⟩,
 ⟨none,some 62,false,.mv,[.t 12]⟩,
 ⟨none,some 63,false,.mv,[.t 11]⟩,
 ⟨none,some 64,false,.aadr 25 1,[.t 4,.t 63]⟩,
 ⟨none,some 65,false,.ld 1 false,[.t 64]⟩,
 ⟨none,some 66,false,.call Fn.q31,[.t 62,.t 65]⟩,
 ⟨none,some 67,false,.aadr 25 1,[.t 10,.t 61]⟩,
 ⟨none,none,false,.st 1,[.t 67,.t 66]⟩])))))
 (.reg [
 ⟨none,some 68,false,.bin .add,[.t 31,.c (.int .i64 1)]⟩,
 ⟨none,some 31,true,.mv,[.t 68]⟩]))))
def Mc.q75_L2 : MC := (.seq (.reg [
 ⟨none,some 70,false,.bin .lss,[.t 69,.c (.int .i64 25)]⟩])
 (.seq (.ite (.t 70)
 .skip
 (.exit 4))
 (.seq (.blk 5 (.seq (.reg [
 ⟨none,some 71,false,.mv,[.t 69]⟩,
 ⟨none,some 15,true,.mv,[.t 71]⟩])
 (.seq (.reg [
 ⟨none,some 72,false,.mv,[.t 15]⟩,
 ⟨none,some 73,false,.mv,[.t 15]⟩,
 ⟨none,some 74,false,.bin .rem,[.t 73,.c (.int .i64 5)]⟩,
 ⟨none,some 75,false,.bin .sub,[.t 72,.t 74]⟩,
 ⟨none,some 16,true,.mv,[.t 75]⟩])
 (.rgd [
 ⟨none,some 76,false,.mv,[.t 15]⟩,
 ⟨none,some 77,false,.mv,[.t 15]⟩,
 ⟨none,some 78,false,.aadr 25 1,[.t 10,.t 77]⟩,
 ⟨none,some 79,false,.ld 1 false,[.t 78]⟩,
 ⟨none,some 80,false,.mv,[.t 16]⟩,
 ⟨none,some 81,false,.mv,[.t 15]⟩,
 ⟨none,some 82,false,.bin .add,[.t 81,.c (.int .i64 1)]⟩,
 ⟨none,some 83,false,.bin .rem,[.t 82,.c (.int .i64 5)]⟩,
 ⟨none,some 84,false,.bin .add,[.t 80,.t 83]⟩,
 ⟨none,some 85,false,.aadr 25 1,[.t 10,.t 84]⟩,
 ⟨none,some 86,false,.ld 1 false,[.t 85]⟩,
 ⟨none,some 87,false,.un .xor,[.t 86]⟩,
 ⟨none,some 88,false,.mv,[.t 16]⟩,
 ⟨none,some 89,false,.mv,[.t 15]⟩,
 ⟨none,some 90,false,.bin .add,[.t 89,.c (.int .i64 2)]⟩,
 ⟨none,some 91,false,.bin .rem,[.t 90,.c (.int .i64 5)]⟩,
 ⟨none,some 92,false,.bin .add,[.t 88,.t 91]⟩,
 ⟨none,some 93,false,.aadr 25 1,[.t 10,.t 92]⟩,
 ⟨none,some 94,false,.ld 1 false,[.t 93]⟩,
 ⟨none,some 95,false,.bin .and,[.t 87,.t 94]⟩,
 ⟨none,some 96,false,.bin .xor,[.t 79,.t 95]⟩,
 ⟨none,some 97,false,.aadr 25 1,[.t 3,.t 76]⟩,
 ⟨none,none,false,.st 1,[.t 97,.t 96]⟩]))))
 (.reg [
 ⟨none,some 98,false,.bin .add,[.t 69,.c (.int .i64 1)]⟩,
 ⟨none,some 69,true,.mv,[.t 98]⟩]))))
def Mc.q75 : MC := (.seq (.reg [
 ⟨none,some 3,true,.box,[.t 0]⟩,
 ⟨none,some 4,true,.box,[.t 1]⟩,
 ⟨none,some 6,true,.alloc [.int .u64 0,.int .u64 0,.int .u64 0,.int .u64 0,.int .u64 0,.int .u64 0,.int .u64 0,.int .u64 0,.int .u64 0,.int .u64 0,.int .u64 0,.int .u64 0,.int .u64 0,.int .u64 0,.int .u64 0,.int .u64 0,.int .u64 0,.int .u64 0,.int .u64 0,.int .u64 0,.int .u64 0,.int .u64 0,.int .u64 0,.int .u64 0,.int .u64 0],[]⟩])
 (.seq (.reg [
 ⟨none,some 7,true,.alloc [.int .u64 0,.int .u64 0,.int .u64 0,.int .u64 0,.int .u64 0],[]⟩])
 (.seq (.seq (.reg [
 ⟨none,some 17,true,.ld 25 true,[.t 3]⟩,
 ⟨none,some 18,true,.mv,[.c (.int .i64 0)]⟩])
 (.blk 0 (.loop [8,9] Mc.q75_L0)))
 (.seq (.reg [
 ⟨none,some 10,true,.alloc [.int .u64 0,.int .u64 0,.int .u64 0,.int .u64 0,.int .u64 0,.int .u64 0,.int .u64 0,.int .u64 0,.int .u64 0,.int .u64 0,.int .u64 0,.int .u64 0,.int .u64 0,.int .u64 0,.int .u64 0,.int .u64 0,.int .u64 0,.int .u64 0,.int .u64 0,.int .u64 0,.int .u64 0,.int .u64 0,.int .u64 0,.int .u64 0,.int .u64 0],[]⟩])
 (.seq (.seq (.reg [
 ⟨none,some 30,true,.ld 25 true,[.t 3]⟩,
 ⟨none,some 31,true,.mv,[.c (.int .i64 0)]⟩])
 (.blk 2 (.loop [11,12,13,14] Mc.q75_L1)))
 (.seq (.seq (.reg [
 ⟨none,some 69,true,.mv,[.c (.int .i64 0)]⟩])
 (.blk 4 (.loop [15,16] Mc.q75_L2)))
 (.seq (.reg [
 ⟨none,some 99,false,.aadr 25 1,[.t 3,.c (.int .i64 0)]⟩,
 ⟨none,some 100,false,.ld 1 false,[.t 99]⟩,
 ⟨none,some 101,false,.mv,[.t 2]⟩,
 ⟨none,some 102,false,.bin .xor,[.t 100,.t 101]⟩,
 ⟨none,some 103,false,.aadr 25 1,[.t 3,.c (.int .i64 0)]⟩,
 ⟨none,none,false,.st 1,[.t 103,.t 102]⟩])
 (.seq (.reg [
 ⟨none,some 104,false,.ld 25 true,[.t 3]⟩,
 ⟨none,none,false,.st 25,[.t 6,.t 104]⟩])
 .ret))))))))
def Ks.q31 : List Nat := [0,1,4,5]
def Rs.q31 : List RV := [.tmp 4]
def Dl.q31 : List (List Nat) := []
def Mc.q31 : MC := (.seq (.reg [
 ⟨none,some 4,true,.mv,[.c (.int .u64 0)]⟩])
 (.seq (.reg [
 ⟨none,some 6,false,.mv,[.t 1]⟩,
 ⟨none,some 7,false,.conv .u64,[.t 6]⟩,
 ⟨none,some 8,false,.bin .and,[.t 7,.c (.int .u64 63)]⟩,
 ⟨none,some 5,true,.mv,[.t 8]⟩])
 (.seq (.reg [
 ⟨none,some 9,false,.mv,[.t 0]⟩,
 ⟨none,some 10,false,.mv,[.t 5]⟩,
 ⟨none,some 11,false,.bin .shl,[.t 9,.t 10]⟩,
 ⟨none,some 12,false,.mv,[.t 0]⟩,
 ⟨none,some 13,false,.mv,[.t 5]⟩,
 ⟨none,some 14,false,.bin .sub,[.c (.int .u64 64),.t 13]⟩,
 ⟨none,some 15,false,.bin .shr,[.t 12,.t 14]⟩,
 ⟨none,some 16,false,.bin .or,[.t 11,.t 15]⟩,
 ⟨none,some 4,true,.mv,[.t 16]⟩])
 .ret)))
end Go.Proofs.YtaadifodgahnjaaGreatDoor
