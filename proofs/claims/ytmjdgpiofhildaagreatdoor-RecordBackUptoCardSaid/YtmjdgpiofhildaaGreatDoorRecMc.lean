/- The functions, resolved: by program (Gen.lean). -/
import Derived.Test.YtmjdgpiofhildaaGreatDoorRecIds
namespace Go.Proofs.YtmjdgpiofhildaaGreatDoor
/-- licit/licitlaw17.awake -/
def Ks.licitlaw17_awake : List Nat := [0, 1]
def Rs.licitlaw17_awake : List RV := [.tmp 0]
def Dl.licitlaw17_awake : List (List Nat) := []
def Mc.licitlaw17_awake : MC := (.seq (.reg [
    ⟨none, some 0, true, .mv, [.c (.bool false)]⟩])
  (.seq (.reg [
    ⟨none, some 2, false, .call Fn.licitlaw17_example, [.c (.str [98])]⟩,
    ⟨none, some 1, true, .mv, [.t 2]⟩])
  (.seq (.reg [
    ⟨none, some 3, false, .mv, [.t 1]⟩,
    ⟨none, some 4, false, .call Fn.record_Check, [.t 3]⟩,
    ⟨none, some 5, false, .bin .eql, [.t 4, .c (.int .i64 0)]⟩,
    ⟨none, some 6, false, .mv, [.t 5]⟩,
    ⟨some (6, true), some 7, false, .mv, [.t 1]⟩,
    ⟨some (6, true), some 8, false, .call Fn.record_Writer, [.t 7, .c (.str [97, 47, 98])]⟩,
    ⟨some (6, true), some 9, false, .bin .eql, [.t 8, .c (.int .i64 1)]⟩,
    ⟨none, some 10, false, .pick, [.t 6, .t 9, .c (.bool false)]⟩,
    ⟨none, some 11, false, .mv, [.t 10]⟩,
    ⟨some (11, true), some 12, false, .mv, [.t 1]⟩,
    ⟨some (11, true), some 13, false, .call Fn.record_Needed, [.t 12, .c (.str [97, 47, 98])]⟩,
    ⟨some (11, true), some 14, false, .bsl false 1, [.c (.int .i64 0), .c (.int .i64 1)]⟩,
    ⟨some (11, true), some 15, false, .call Fn.slices_Equal___int_int_, [.t 13, .t 14]⟩,
    ⟨none, some 16, false, .pick, [.t 11, .t 15, .c (.bool false)]⟩,
    ⟨none, some 17, false, .mv, [.t 16]⟩,
    ⟨some (17, true), some 18, false, .mv, [.t 1]⟩,
    ⟨some (17, true), some 19, false, .call Fn.record_Sources, [.t 18, .c (.str [97, 47, 98])]⟩,
    ⟨some (17, true), some 20, false, .bsl false 1, [.c (.str [97, 47, 120])]⟩,
    ⟨some (17, true), some 21, false, .call Fn.slices_Equal___string_string_, [.t 19, .t 20]⟩,
    ⟨none, some 22, false, .pick, [.t 17, .t 21, .c (.bool false)]⟩,
    ⟨none, some 23, false, .mv, [.t 22]⟩,
    ⟨some (23, true), some 24, false, .mv, [.t 1]⟩,
    ⟨some (23, true), some 25, false, .bsl false 1, [.c (.str [97, 47, 111])]⟩,
    ⟨some (23, true), some 26, false, .call Fn.record_Affected, [.t 24, .t 25]⟩,
    ⟨some (23, true), some 27, false, .bsl false 1, [.c (.int .i64 1)]⟩,
    ⟨some (23, true), some 28, false, .call Fn.slices_Equal___int_int_, [.t 26, .t 27]⟩,
    ⟨none, some 29, false, .pick, [.t 23, .t 28, .c (.bool false)]⟩,
    ⟨none, some 30, false, .mv, [.t 29]⟩,
    ⟨some (30, true), some 31, false, .mv, [.t 1]⟩,
    ⟨some (30, true), some 32, false, .call Fn.licitlaw17_example, [.c (.str [99])]⟩,
    ⟨some (30, true), some 33, false, .call Fn.record_Diverge, [.t 31, .t 32]⟩,
    ⟨some (30, true), some 34, false, .bin .eql, [.t 33, .c (.int .i64 1)]⟩,
    ⟨none, some 35, false, .pick, [.t 30, .t 34, .c (.bool false)]⟩,
    ⟨none, some 0, true, .mv, [.t 35]⟩])
  .ret)))

/-- licit/licitref17.Few -/
def Ks.licitref17_Few : List Nat := [0, 2, 3, 4]
def Rs.licitref17_Few : List RV := [.tmp 2]
def Dl.licitref17_Few : List (List Nat) := [[4], []]
def Mc.licitref17_Few_L1 : MC := (.seq (.seq (.reg [
    ⟨none, some 44, false, .mv, [.t 4]⟩,
    ⟨none, some 45, false, .mv, [.t 0]⟩,
    ⟨none, some 46, false, .mv, [.t 3]⟩,
    ⟨none, some 47, false, .iadr 6, [.t 45, .t 46]⟩,
    ⟨none, some 48, false, .fadr 3, [.t 47]⟩,
    ⟨none, some 49, false, .ld 1 false, [.t 48]⟩,
    ⟨none, some 50, false, .len 1, [.t 49]⟩,
    ⟨none, some 51, false, .bin .lss, [.t 44, .t 50]⟩])
  (.ite (.t 51)
    .skip
    (.exit 2)))
  (.seq (.blk 3 (.seq (.reg [
    ⟨none, some 54, false, .mv, [.t 0]⟩,
    ⟨none, some 55, false, .mv, [.t 3]⟩,
    ⟨none, some 56, false, .iadr 6, [.t 54, .t 55]⟩,
    ⟨none, some 57, false, .fadr 3, [.t 56]⟩,
    ⟨none, some 58, false, .ld 1 false, [.t 57]⟩,
    ⟨none, some 59, false, .mv, [.t 4]⟩,
    ⟨none, some 60, false, .iadr 2, [.t 58, .t 59]⟩,
    ⟨none, some 61, false, .fadr 0, [.t 60]⟩,
    ⟨none, some 62, false, .ld 1 false, [.t 61]⟩,
    ⟨none, some 63, false, .len 0, [.t 62]⟩,
    ⟨none, some 64, false, .bin .gtr, [.t 63, .c (.int .i64 200)]⟩,
    ⟨none, some 65, false, .mv, [.t 64]⟩,
    ⟨some (65, false), some 66, false, .mv, [.t 0]⟩,
    ⟨some (65, false), some 67, false, .mv, [.t 3]⟩,
    ⟨some (65, false), some 68, false, .iadr 6, [.t 66, .t 67]⟩,
    ⟨some (65, false), some 69, false, .fadr 3, [.t 68]⟩,
    ⟨some (65, false), some 70, false, .ld 1 false, [.t 69]⟩,
    ⟨some (65, false), some 71, false, .mv, [.t 4]⟩,
    ⟨some (65, false), some 72, false, .iadr 2, [.t 70, .t 71]⟩,
    ⟨some (65, false), some 73, false, .fadr 1, [.t 72]⟩,
    ⟨some (65, false), some 74, false, .ld 1 false, [.t 73]⟩,
    ⟨some (65, false), some 75, false, .len 0, [.t 74]⟩,
    ⟨some (65, false), some 76, false, .bin .gtr, [.t 75, .c (.int .i64 200)]⟩,
    ⟨none, some 77, false, .pick, [.t 65, .c (.bool true), .t 76]⟩])
  (.ite (.t 77)
    (.seq (.reg [
      ⟨none, some 2, true, .mv, [.c (.bool false)]⟩])
    .ret)
    .skip)))
  (.reg [
    ⟨none, some 52, false, .mv, [.t 4]⟩,
    ⟨none, some 53, false, .bin .add, [.t 52, .c (.int .i64 1)]⟩,
    ⟨none, some 4, true, .mv, [.t 53]⟩])))
def Mc.licitref17_Few_L0 : MC := (.seq (.seq (.reg [
    ⟨none, some 11, false, .mv, [.t 3]⟩,
    ⟨none, some 12, false, .mv, [.t 0]⟩,
    ⟨none, some 13, false, .len 1, [.t 12]⟩,
    ⟨none, some 14, false, .bin .lss, [.t 11, .t 13]⟩])
  (.ite (.t 14)
    .skip
    (.exit 0)))
  (.seq (.blk 1 (.seq (.seq (.reg [
    ⟨none, some 17, false, .mv, [.t 0]⟩,
    ⟨none, some 18, false, .mv, [.t 3]⟩,
    ⟨none, some 19, false, .iadr 6, [.t 17, .t 18]⟩,
    ⟨none, some 20, false, .fadr 3, [.t 19]⟩,
    ⟨none, some 21, false, .ld 1 false, [.t 20]⟩,
    ⟨none, some 22, false, .len 1, [.t 21]⟩,
    ⟨none, some 23, false, .bin .gtr, [.t 22, .c (.int .i64 12)]⟩,
    ⟨none, some 24, false, .mv, [.t 23]⟩,
    ⟨some (24, false), some 25, false, .mv, [.t 0]⟩,
    ⟨some (24, false), some 26, false, .mv, [.t 3]⟩,
    ⟨some (24, false), some 27, false, .iadr 6, [.t 25, .t 26]⟩,
    ⟨some (24, false), some 28, false, .fadr 4, [.t 27]⟩,
    ⟨some (24, false), some 29, false, .fadr 0, [.t 28]⟩,
    ⟨some (24, false), some 30, false, .ld 1 false, [.t 29]⟩,
    ⟨some (24, false), some 31, false, .len 0, [.t 30]⟩,
    ⟨some (24, false), some 32, false, .bin .gtr, [.t 31, .c (.int .i64 200)]⟩,
    ⟨none, some 33, false, .pick, [.t 24, .c (.bool true), .t 32]⟩,
    ⟨none, some 34, false, .mv, [.t 33]⟩,
    ⟨some (34, false), some 35, false, .mv, [.t 0]⟩,
    ⟨some (34, false), some 36, false, .mv, [.t 3]⟩,
    ⟨some (34, false), some 37, false, .iadr 6, [.t 35, .t 36]⟩,
    ⟨some (34, false), some 38, false, .fadr 4, [.t 37]⟩,
    ⟨some (34, false), some 39, false, .fadr 1, [.t 38]⟩,
    ⟨some (34, false), some 40, false, .ld 1 false, [.t 39]⟩,
    ⟨some (34, false), some 41, false, .len 0, [.t 40]⟩,
    ⟨some (34, false), some 42, false, .bin .gtr, [.t 41, .c (.int .i64 200)]⟩,
    ⟨none, some 43, false, .pick, [.t 34, .c (.bool true), .t 42]⟩])
  (.ite (.t 43)
    (.seq (.reg [
      ⟨none, some 2, true, .mv, [.c (.bool false)]⟩])
    .ret)
    .skip))
  (.seq (.reg [
    ⟨none, some 4, true, .mv, [.c (.int .i64 0)]⟩])
  (.blk 2 (.loop [] Mc.licitref17_Few_L1)))))
  (.reg [
    ⟨none, some 15, false, .mv, [.t 3]⟩,
    ⟨none, some 16, false, .bin .add, [.t 15, .c (.int .i64 1)]⟩,
    ⟨none, some 3, true, .mv, [.t 16]⟩])))
def Mc.licitref17_Few : MC := (.seq (.reg [
    ⟨none, some 2, true, .mv, [.c (.bool false)]⟩])
  (.seq (.seq (.reg [
    ⟨none, some 5, false, .mv, [.t 0]⟩,
    ⟨none, some 6, false, .len 1, [.t 5]⟩,
    ⟨none, some 7, false, .bin .gtr, [.t 6, .c (.int .i64 1024)]⟩])
  (.ite (.t 7)
    (.seq (.reg [
      ⟨none, some 2, true, .mv, [.c (.bool true)]⟩])
    .ret)
    .skip))
  (.seq (.seq (.reg [
    ⟨none, some 8, false, .mv, [.t 0]⟩,
    ⟨none, some 9, false, .len 1, [.t 8]⟩,
    ⟨none, some 10, false, .bin .gtr, [.t 9, .c (.int .i64 12)]⟩])
  (.ite (.t 10)
    (.seq (.reg [
      ⟨none, some 2, true, .mv, [.c (.bool false)]⟩])
    .ret)
    .skip))
  (.seq (.seq (.reg [
    ⟨none, some 3, true, .mv, [.c (.int .i64 0)]⟩])
  (.blk 0 (.loop [4] Mc.licitref17_Few_L0)))
  (.seq (.reg [
    ⟨none, some 2, true, .mv, [.c (.bool true)]⟩])
  .ret)))))

/-- licit/record.Check -/
def Ks.record_Check : List Nat := [0, 2, 3, 4, 5, 6, 8, 13, 14, 15, 103, 104, 105]
def Rs.record_Check : List RV := [.tmp 2]
def Dl.record_Check : List (List Nat) := [[4, 5, 6, 8, 103, 104, 105], [8]]
def Mc.record_Check_L1 : MC := (.seq (.reg [
    ⟨none, some 106, false, .bin .lss, [.t 105, .t 104]⟩])
  (.seq (.ite (.t 106)
    .skip
    (.exit 3))
  (.seq (.blk 4 (.seq (.reg [
    ⟨none, some 107, false, .iadr 2, [.t 103, .t 105]⟩,
    ⟨none, some 108, false, .ld 2 true, [.t 107]⟩,
    ⟨none, some 8, true, .alloc [.str [], .str []], []⟩,
    ⟨none, none, false, .st 2, [.t 8, .t 108]⟩])
  (.reg [
    ⟨none, some 109, false, .mv, [.t 3]⟩,
    ⟨none, some 110, false, .fadr 0, [.t 8]⟩,
    ⟨none, some 111, false, .ld 1 false, [.t 110]⟩,
    ⟨none, some 112, false, .fadr 1, [.t 8]⟩,
    ⟨none, some 113, false, .ld 1 false, [.t 112]⟩,
    ⟨none, none, false, .mapup .s, [.t 109, .t 111, .t 113]⟩])))
  (.reg [
    ⟨none, some 114, false, .bin .add, [.t 105, .c (.int .i64 1)]⟩,
    ⟨none, some 105, true, .mv, [.t 114]⟩]))))
def Mc.record_Check_L0 : MC := (.seq (.reg [
    ⟨none, some 16, false, .bin .lss, [.t 15, .t 14]⟩])
  (.seq (.ite (.t 16)
    .skip
    (.exit 0))
  (.seq (.blk 1 (.seq (.reg [
    ⟨none, some 17, false, .mv, [.t 15]⟩,
    ⟨none, some 18, false, .iadr 6, [.t 13, .t 15]⟩,
    ⟨none, some 19, false, .ld 6 true, [.t 18]⟩,
    ⟨none, some 5, true, .alloc [.int .i64 0, .int .i64 0, .int .i64 0, .nils, .str [], .str []], []⟩,
    ⟨none, some 4, true, .mv, [.t 17]⟩,
    ⟨none, none, false, .st 6, [.t 5, .t 19]⟩])
  (.seq (.blk 2 (.seq (.reg [
    ⟨none, some 21, false, .fadr 0, [.t 5]⟩,
    ⟨none, some 22, false, .ld 1 false, [.t 21]⟩,
    ⟨none, some 23, false, .bin .lss, [.t 22, .c (.int .i64 0)]⟩,
    ⟨none, some 24, false, .mv, [.t 23]⟩,
    ⟨some (24, false), some 25, false, .fadr 0, [.t 5]⟩,
    ⟨some (24, false), some 26, false, .ld 1 false, [.t 25]⟩,
    ⟨some (24, false), some 27, false, .bin .geq, [.t 26, .c (.int .i64 16)]⟩,
    ⟨none, some 28, false, .pick, [.t 24, .c (.bool true), .t 27]⟩,
    ⟨none, some 29, false, .mv, [.t 28]⟩,
    ⟨some (29, false), some 30, false, .fadr 1, [.t 5]⟩,
    ⟨some (29, false), some 31, false, .ld 1 false, [.t 30]⟩,
    ⟨some (29, false), some 32, false, .bin .lss, [.t 31, .c (.int .i64 0)]⟩,
    ⟨none, some 33, false, .pick, [.t 29, .c (.bool true), .t 32]⟩,
    ⟨none, some 34, false, .mv, [.t 33]⟩,
    ⟨some (34, false), some 35, false, .fadr 1, [.t 5]⟩,
    ⟨some (34, false), some 36, false, .ld 1 false, [.t 35]⟩,
    ⟨some (34, false), some 37, false, .bin .geq, [.t 36, .c (.int .i64 1024)]⟩,
    ⟨none, some 38, false, .pick, [.t 34, .c (.bool true), .t 37]⟩,
    ⟨none, some 39, false, .mv, [.t 38]⟩,
    ⟨some (39, false), some 40, false, .fadr 2, [.t 5]⟩,
    ⟨some (39, false), some 41, false, .ld 1 false, [.t 40]⟩,
    ⟨some (39, false), some 42, false, .bin .lss, [.t 41, .c (.int .i64 1)]⟩,
    ⟨none, some 43, false, .pick, [.t 39, .c (.bool true), .t 42]⟩,
    ⟨none, some 44, false, .mv, [.t 43]⟩,
    ⟨some (44, false), some 45, false, .fadr 2, [.t 5]⟩,
    ⟨some (44, false), some 46, false, .ld 1 false, [.t 45]⟩,
    ⟨some (44, false), some 47, false, .bin .gtr, [.t 46, .c (.int .i64 8)]⟩,
    ⟨none, some 48, false, .pick, [.t 44, .c (.bool true), .t 47]⟩,
    ⟨none, some 20, false, .mv, [.t 48]⟩])
  (.ite (.t 20)
    (.seq (.reg [
      ⟨none, some 2, true, .mv, [.c (.int .i64 3)]⟩])
    .ret)
    (.seq (.rgd [
      ⟨none, some 50, false, .mv, [.t 4]⟩,
      ⟨none, some 51, false, .bin .gtr, [.t 50, .c (.int .i64 0)]⟩,
      ⟨none, some 52, false, .mv, [.t 51]⟩,
      ⟨some (52, true), some 53, false, .fadr 0, [.t 5]⟩,
      ⟨some (52, true), some 54, false, .ld 1 false, [.t 53]⟩,
      ⟨some (52, true), some 55, false, .mv, [.t 0]⟩,
      ⟨some (52, true), some 56, false, .mv, [.t 4]⟩,
      ⟨some (52, true), some 57, false, .bin .sub, [.t 56, .c (.int .i64 1)]⟩,
      ⟨some (52, true), some 58, false, .iadr 6, [.t 55, .t 57]⟩,
      ⟨some (52, true), some 59, false, .fadr 0, [.t 58]⟩,
      ⟨some (52, true), some 60, false, .ld 1 false, [.t 59]⟩,
      ⟨some (52, true), some 61, false, .bin .lss, [.t 54, .t 60]⟩,
      ⟨some (52, true), some 62, false, .mv, [.t 61]⟩,
      ⟨some (62, false), some 63, false, .fadr 0, [.t 5]⟩,
      ⟨some (62, false), some 64, false, .ld 1 false, [.t 63]⟩,
      ⟨some (62, false), some 65, false, .mv, [.t 0]⟩,
      ⟨some (62, false), some 66, false, .mv, [.t 4]⟩,
      ⟨some (62, false), some 67, false, .bin .sub, [.t 66, .c (.int .i64 1)]⟩,
      ⟨some (62, false), some 68, false, .iadr 6, [.t 65, .t 67]⟩,
      ⟨some (62, false), some 69, false, .fadr 0, [.t 68]⟩,
      ⟨some (62, false), some 70, false, .ld 1 false, [.t 69]⟩,
      ⟨some (62, false), some 71, false, .bin .eql, [.t 64, .t 70]⟩,
      ⟨some (62, false), some 72, false, .mv, [.t 71]⟩,
      ⟨some (72, true), some 73, false, .fadr 1, [.t 5]⟩,
      ⟨some (72, true), some 74, false, .ld 1 false, [.t 73]⟩,
      ⟨some (72, true), some 75, false, .mv, [.t 0]⟩,
      ⟨some (72, true), some 76, false, .mv, [.t 4]⟩,
      ⟨some (72, true), some 77, false, .bin .sub, [.t 76, .c (.int .i64 1)]⟩,
      ⟨some (72, true), some 78, false, .iadr 6, [.t 75, .t 77]⟩,
      ⟨some (72, true), some 79, false, .fadr 1, [.t 78]⟩,
      ⟨some (72, true), some 80, false, .ld 1 false, [.t 79]⟩,
      ⟨some (72, true), some 81, false, .bin .leq, [.t 74, .t 80]⟩,
      ⟨some (62, false), some 82, false, .pick, [.t 72, .t 81, .c (.bool false)]⟩,
      ⟨some (52, true), some 83, false, .pick, [.t 62, .c (.bool true), .t 82]⟩,
      ⟨none, some 84, false, .pick, [.t 52, .t 83, .c (.bool false)]⟩,
      ⟨none, some 49, false, .mv, [.t 84]⟩])
    (.ite (.t 49)
      (.seq (.reg [
        ⟨none, some 2, true, .mv, [.c (.int .i64 5)]⟩])
      .ret)
      (.seq (.reg [
        ⟨none, some 86, false, .fadr 3, [.t 5]⟩,
        ⟨none, some 87, false, .ld 1 false, [.t 86]⟩,
        ⟨none, some 88, false, .len 1, [.t 87]⟩,
        ⟨none, some 89, false, .bin .eql, [.t 88, .c (.int .i64 0)]⟩,
        ⟨none, some 90, false, .mv, [.t 89]⟩,
        ⟨some (90, false), some 91, false, .fadr 3, [.t 5]⟩,
        ⟨some (90, false), some 92, false, .ld 1 false, [.t 91]⟩,
        ⟨some (90, false), some 93, false, .len 1, [.t 92]⟩,
        ⟨some (90, false), some 94, false, .bin .gtr, [.t 93, .c (.int .i64 1024)]⟩,
        ⟨none, some 95, false, .pick, [.t 90, .c (.bool true), .t 94]⟩,
        ⟨none, some 85, false, .mv, [.t 95]⟩])
      (.ite (.t 85)
        (.seq (.reg [
          ⟨none, some 2, true, .mv, [.c (.int .i64 1)]⟩])
        .ret)
        .skip)))))))
  (.seq (.seq (.reg [
    ⟨none, some 96, false, .ld 6 true, [.t 5]⟩,
    ⟨none, some 97, false, .mv, [.t 3]⟩,
    ⟨none, some 98, false, .call Fn.record_files, [.t 96, .t 97]⟩,
    ⟨none, some 6, true, .mv, [.t 98]⟩])
  (.seq (.reg [
    ⟨none, some 99, false, .mv, [.t 6]⟩,
    ⟨none, some 100, false, .bin .neq, [.t 99, .c (.int .i64 0)]⟩])
  (.ite (.t 100)
    (.seq (.reg [
      ⟨none, some 101, false, .mv, [.t 6]⟩,
      ⟨none, some 2, true, .mv, [.t 101]⟩])
    .ret)
    .skip)))
  (.seq (.seq (.reg [
    ⟨none, some 102, false, .fadr 3, [.t 5]⟩,
    ⟨none, some 103, true, .ld 1 false, [.t 102]⟩,
    ⟨none, some 104, true, .len 1, [.t 103]⟩,
    ⟨none, some 105, true, .mv, [.c (.int .i64 0)]⟩])
  (.blk 3 (.loop [8] Mc.record_Check_L1)))
  (.reg [
    ⟨none, some 115, false, .mv, [.t 3]⟩,
    ⟨none, some 116, false, .fadr 4, [.t 5]⟩,
    ⟨none, some 117, false, .fadr 0, [.t 116]⟩,
    ⟨none, some 118, false, .ld 1 false, [.t 117]⟩,
    ⟨none, some 119, false, .fadr 4, [.t 5]⟩,
    ⟨none, some 120, false, .fadr 1, [.t 119]⟩,
    ⟨none, some 121, false, .ld 1 false, [.t 120]⟩,
    ⟨none, none, false, .mapup .s, [.t 115, .t 118, .t 121]⟩]))))))
  (.reg [
    ⟨none, some 122, false, .bin .add, [.t 15, .c (.int .i64 1)]⟩,
    ⟨none, some 15, true, .mv, [.t 122]⟩]))))
def Mc.record_Check : MC := (.seq (.reg [
    ⟨none, some 2, true, .mv, [.c (.int .i64 0)]⟩])
  (.seq (.seq (.reg [
    ⟨none, some 9, false, .mv, [.t 0]⟩,
    ⟨none, some 10, false, .len 1, [.t 9]⟩,
    ⟨none, some 11, false, .bin .gtr, [.t 10, .c (.int .i64 1024)]⟩])
  (.ite (.t 11)
    (.seq (.reg [
      ⟨none, some 2, true, .mv, [.c (.int .i64 10)]⟩])
    .ret)
    .skip))
  (.seq (.reg [
    ⟨none, some 12, false, .mkmap, []⟩,
    ⟨none, some 3, true, .mv, [.t 12]⟩])
  (.seq (.seq (.reg [
    ⟨none, some 13, true, .mv, [.t 0]⟩,
    ⟨none, some 14, true, .len 1, [.t 13]⟩,
    ⟨none, some 15, true, .mv, [.c (.int .i64 0)]⟩])
  (.blk 0 (.loop [4, 5, 6, 8, 103, 104, 105] Mc.record_Check_L0)))
  (.seq (.reg [
    ⟨none, some 2, true, .mv, [.c (.int .i64 0)]⟩])
  .ret)))))

/-- licit/record.Diverge -/
def Ks.record_Diverge : List Nat := [0, 1, 4, 5, 6, 12, 13]
def Rs.record_Diverge : List RV := [.tmp 4]
def Dl.record_Diverge : List (List Nat) := [[6]]
def Mc.record_Diverge_L0 : MC := (.seq (.reg [
    ⟨none, some 14, false, .bin .lss, [.t 13, .t 12]⟩])
  (.seq (.ite (.t 14)
    .skip
    (.exit 0))
  (.seq (.blk 1 (.seq (.reg [
    ⟨none, some 15, false, .mv, [.t 13]⟩,
    ⟨none, some 6, true, .mv, [.t 15]⟩])
  (.seq (.rgd [
    ⟨none, some 16, false, .mv, [.t 0]⟩,
    ⟨none, some 17, false, .mv, [.t 6]⟩,
    ⟨none, some 18, false, .iadr 6, [.t 16, .t 17]⟩,
    ⟨none, some 19, false, .ld 6 true, [.t 18]⟩,
    ⟨none, some 20, false, .mv, [.t 1]⟩,
    ⟨none, some 21, false, .mv, [.t 6]⟩,
    ⟨none, some 22, false, .iadr 6, [.t 20, .t 21]⟩,
    ⟨none, some 23, false, .ld 6 true, [.t 22]⟩,
    ⟨none, some 24, false, .call Fn.record_equal, [.t 19, .t 23]⟩,
    ⟨none, some 25, false, .un .not, [.t 24]⟩])
  (.ite (.t 25)
    (.seq (.reg [
      ⟨none, some 26, false, .mv, [.t 6]⟩,
      ⟨none, some 4, true, .mv, [.t 26]⟩])
    .ret)
    .skip))))
  (.reg [
    ⟨none, some 27, false, .bin .add, [.t 13, .c (.int .i64 1)]⟩,
    ⟨none, some 13, true, .mv, [.t 27]⟩]))))
def Mc.record_Diverge : MC := (.seq (.reg [
    ⟨none, some 4, true, .mv, [.c (.int .i64 0)]⟩])
  (.seq (.reg [
    ⟨none, some 7, false, .mv, [.t 0]⟩,
    ⟨none, some 8, false, .len 1, [.t 7]⟩,
    ⟨none, some 9, false, .mv, [.t 1]⟩,
    ⟨none, some 10, false, .len 1, [.t 9]⟩,
    ⟨none, some 11, false, .min, [.t 8, .t 10]⟩,
    ⟨none, some 5, true, .mv, [.t 11]⟩])
  (.seq (.seq (.reg [
    ⟨none, some 12, true, .mv, [.t 5]⟩,
    ⟨none, some 13, true, .mv, [.c (.int .i64 0)]⟩])
  (.blk 0 (.loop [6] Mc.record_Diverge_L0)))
  (.seq (.seq (.reg [
    ⟨none, some 28, false, .mv, [.t 0]⟩,
    ⟨none, some 29, false, .len 1, [.t 28]⟩,
    ⟨none, some 30, false, .mv, [.t 1]⟩,
    ⟨none, some 31, false, .len 1, [.t 30]⟩,
    ⟨none, some 32, false, .bin .eql, [.t 29, .t 31]⟩])
  (.ite (.t 32)
    (.seq (.reg [
      ⟨none, some 4, true, .mv, [.c (.int .i64 (-1))]⟩])
    .ret)
    .skip))
  (.seq (.reg [
    ⟨none, some 33, false, .mv, [.t 5]⟩,
    ⟨none, some 4, true, .mv, [.t 33]⟩])
  .ret)))))

/-- licit/licitlaw17.example -/
def Ks.licitlaw17_example : List Nat := [0, 2]
def Rs.licitlaw17_example : List RV := [.tmp 2]
def Dl.licitlaw17_example : List (List Nat) := []
def Mc.licitlaw17_example : MC := (.seq (.reg [
    ⟨none, some 2, true, .newnil 6, []⟩])
  (.seq (.reg [
    ⟨none, some 3, false, .call Fn.licitlaw17_touch, [.c (.str [97, 47, 120]), .c (.str [120])]⟩,
    ⟨none, some 4, false, .bsl false 2, [.t 3]⟩,
    ⟨none, some 5, false, .call Fn.licitlaw17_touch, [.c (.str [97, 47, 111]), .c (.str [111])]⟩,
    ⟨none, some 6, false, .bld [.int .i64 0, .int .i64 0, .int .i64 0, .nils, .str [], .str []] [(2, 1), (3, 1), (4, 2)], [.c (.int .i64 1), .t 4, .t 5]⟩,
    ⟨none, some 7, false, .call Fn.licitlaw17_touch, [.c (.str [97, 47, 111]), .c (.str [111])]⟩,
    ⟨none, some 8, false, .bsl false 2, [.t 7]⟩,
    ⟨none, some 9, false, .mv, [.t 0]⟩,
    ⟨none, some 10, false, .call Fn.licitlaw17_touch, [.c (.str [97, 47, 98]), .t 9]⟩,
    ⟨none, some 11, false, .bld [.int .i64 0, .int .i64 0, .int .i64 0, .nils, .str [], .str []] [(1, 1), (2, 1), (3, 1), (4, 2)], [.c (.int .i64 1), .c (.int .i64 4), .t 8, .t 10]⟩,
    ⟨none, some 12, false, .bsl false 6, [.t 6, .t 11]⟩,
    ⟨none, some 2, true, .mv, [.t 12]⟩])
  .ret))

/-- licit/record.Writer -/
def Ks.record_Writer : List Nat := [0, 1, 3, 4]
def Rs.record_Writer : List RV := [.tmp 4]
def Dl.record_Writer : List (List Nat) := []
def Mc.record_Writer : MC := (.seq (.reg [
    ⟨none, some 3, true, .box, [.t 1]⟩,
    ⟨none, some 4, true, .mv, [.c (.int .i64 0)]⟩])
  (.seq (.seq (.reg [
    ⟨none, some 5, false, .mv, [.t 0]⟩,
    ⟨none, some 6, false, .call Fn.record_Check, [.t 5]⟩,
    ⟨none, some 7, false, .bin .neq, [.t 6, .c (.int .i64 0)]⟩])
  (.ite (.t 7)
    (.seq (.reg [
      ⟨none, some 4, true, .mv, [.c (.int .i64 (-1))]⟩])
    .ret)
    .skip))
  (.seq (.reg [
    ⟨none, some 8, false, .mv, [.t 0]⟩,
    ⟨none, some 9, false, .mkfn Fn.record_Writer_1, [.t 3]⟩,
    ⟨none, some 10, false, .call Fn.slices_IndexFunc_api_Record_api_Done_, [.t 8, .t 9]⟩,
    ⟨none, some 4, true, .mv, [.t 10]⟩])
  .ret)))

/-- slices.Equal[[]int,int] -/
def Ks.slices_Equal___int_int_ : List Nat := [0, 1, 4, 5, 12, 13]
def Rs.slices_Equal___int_int_ : List RV := [.tmp 4]
def Dl.slices_Equal___int_int_ : List (List Nat) := [[5]]
def Mc.slices_Equal___int_int__L0 : MC := (.seq (.reg [
    ⟨none, some 14, false, .bin .lss, [.t 13, .t 12]⟩])
  (.seq (.ite (.t 14)
    .skip
    (.exit 0))
  (.seq (.blk 1 (.seq (.reg [
    ⟨none, some 15, false, .mv, [.t 13]⟩,
    ⟨none, some 5, true, .mv, [.t 15]⟩])
  (.seq (.rgd [
    ⟨none, some 16, false, .mv, [.t 0]⟩,
    ⟨none, some 17, false, .mv, [.t 5]⟩,
    ⟨none, some 18, false, .iadr 1, [.t 16, .t 17]⟩,
    ⟨none, some 19, false, .ld 1 false, [.t 18]⟩,
    ⟨none, some 20, false, .mv, [.t 1]⟩,
    ⟨none, some 21, false, .mv, [.t 5]⟩,
    ⟨none, some 22, false, .iadr 1, [.t 20, .t 21]⟩,
    ⟨none, some 23, false, .ld 1 false, [.t 22]⟩,
    ⟨none, some 24, false, .bin .neq, [.t 19, .t 23]⟩])
  (.ite (.t 24)
    (.seq (.reg [
      ⟨none, some 4, true, .mv, [.c (.bool false)]⟩])
    .ret)
    .skip))))
  (.reg [
    ⟨none, some 25, false, .bin .add, [.t 13, .c (.int .i64 1)]⟩,
    ⟨none, some 13, true, .mv, [.t 25]⟩]))))
def Mc.slices_Equal___int_int_ : MC := (.seq (.reg [
    ⟨none, some 4, true, .mv, [.c (.bool false)]⟩])
  (.seq (.seq (.reg [
    ⟨none, some 6, false, .mv, [.t 0]⟩,
    ⟨none, some 7, false, .len 1, [.t 6]⟩,
    ⟨none, some 8, false, .mv, [.t 1]⟩,
    ⟨none, some 9, false, .len 1, [.t 8]⟩,
    ⟨none, some 10, false, .bin .neq, [.t 7, .t 9]⟩])
  (.ite (.t 10)
    (.seq (.reg [
      ⟨none, some 4, true, .mv, [.c (.bool false)]⟩])
    .ret)
    .skip))
  (.seq (.seq (.reg [
    ⟨none, some 11, false, .mv, [.t 0]⟩,
    ⟨none, some 12, true, .len 1, [.t 11]⟩,
    ⟨none, some 13, true, .mv, [.c (.int .i64 0)]⟩])
  (.blk 0 (.loop [5] Mc.slices_Equal___int_int__L0)))
  (.seq (.reg [
    ⟨none, some 4, true, .mv, [.c (.bool true)]⟩])
  .ret))))

/-- licit/record.Needed -/
def Ks.record_Needed : List Nat := [0, 1, 4, 5, 7, 8, 9, 16, 17, 18]
def Rs.record_Needed : List RV := [.tmp 4]
def Dl.record_Needed : List (List Nat) := [[8, 9]]
def Mc.record_Needed_L0 : MC := (.seq (.reg [
    ⟨none, some 19, false, .bin .lss, [.t 18, .t 17]⟩])
  (.seq (.ite (.t 19)
    .skip
    (.exit 0))
  (.seq (.blk 1 (.seq (.reg [
    ⟨none, some 20, false, .mv, [.t 18]⟩,
    ⟨none, some 21, false, .iadr 1, [.t 16, .t 18]⟩,
    ⟨none, some 22, false, .ld 1 false, [.t 21]⟩,
    ⟨none, some 8, true, .mv, [.t 20]⟩,
    ⟨none, some 9, true, .mv, [.t 22]⟩])
  (.seq (.reg [
    ⟨none, some 23, false, .mv, [.t 9]⟩])
  (.ite (.t 23)
    (.reg [
      ⟨none, some 24, false, .mv, [.t 7]⟩,
      ⟨none, some 25, false, .mv, [.t 8]⟩,
      ⟨none, some 26, false, .bsl false 1, [.t 25]⟩,
      ⟨none, some 27, false, .app false 1 8, [.t 24, .t 26]⟩,
      ⟨none, some 7, true, .mv, [.t 27]⟩])
    .skip))))
  (.reg [
    ⟨none, some 28, false, .bin .add, [.t 18, .c (.int .i64 1)]⟩,
    ⟨none, some 18, true, .mv, [.t 28]⟩]))))
def Mc.record_Needed : MC := (.seq (.reg [
    ⟨none, some 4, true, .newnil 1, []⟩])
  (.seq (.reg [
    ⟨none, some 11, false, .mv, [.t 0]⟩,
    ⟨none, some 12, false, .mv, [.t 1]⟩,
    ⟨none, some 13, false, .call Fn.record_needed, [.t 11, .t 12]⟩,
    ⟨none, some 10, false, .mv, [.t 13]⟩,
    ⟨none, some 14, false, .ext 0, [.t 10]⟩,
    ⟨none, some 15, false, .ext 1, [.t 10]⟩,
    ⟨none, some 5, true, .mv, [.t 14]⟩,
    ⟨none, some 6, false, .mv, [.t 15]⟩])
  (.seq (.reg [
    ⟨none, some 7, true, .newnil 1, []⟩])
  (.seq (.seq (.reg [
    ⟨none, some 16, true, .mv, [.t 5]⟩,
    ⟨none, some 17, true, .len 1, [.t 16]⟩,
    ⟨none, some 18, true, .mv, [.c (.int .i64 0)]⟩])
  (.blk 0 (.loop [8, 9] Mc.record_Needed_L0)))
  (.seq (.reg [
    ⟨none, some 29, false, .mv, [.t 7]⟩,
    ⟨none, some 4, true, .mv, [.t 29]⟩])
  .ret)))))

/-- slices.Equal[[]string,string] -/
def Ks.slices_Equal___string_string_ : List Nat := [0, 1, 4, 5, 12, 13]
def Rs.slices_Equal___string_string_ : List RV := [.tmp 4]
def Dl.slices_Equal___string_string_ : List (List Nat) := [[5]]
def Mc.slices_Equal___string_string__L0 : MC := (.seq (.reg [
    ⟨none, some 14, false, .bin .lss, [.t 13, .t 12]⟩])
  (.seq (.ite (.t 14)
    .skip
    (.exit 0))
  (.seq (.blk 1 (.seq (.reg [
    ⟨none, some 15, false, .mv, [.t 13]⟩,
    ⟨none, some 5, true, .mv, [.t 15]⟩])
  (.seq (.rgd [
    ⟨none, some 16, false, .mv, [.t 0]⟩,
    ⟨none, some 17, false, .mv, [.t 5]⟩,
    ⟨none, some 18, false, .iadr 1, [.t 16, .t 17]⟩,
    ⟨none, some 19, false, .ld 1 false, [.t 18]⟩,
    ⟨none, some 20, false, .mv, [.t 1]⟩,
    ⟨none, some 21, false, .mv, [.t 5]⟩,
    ⟨none, some 22, false, .iadr 1, [.t 20, .t 21]⟩,
    ⟨none, some 23, false, .ld 1 false, [.t 22]⟩,
    ⟨none, some 24, false, .bin .neq, [.t 19, .t 23]⟩])
  (.ite (.t 24)
    (.seq (.reg [
      ⟨none, some 4, true, .mv, [.c (.bool false)]⟩])
    .ret)
    .skip))))
  (.reg [
    ⟨none, some 25, false, .bin .add, [.t 13, .c (.int .i64 1)]⟩,
    ⟨none, some 13, true, .mv, [.t 25]⟩]))))
def Mc.slices_Equal___string_string_ : MC := (.seq (.reg [
    ⟨none, some 4, true, .mv, [.c (.bool false)]⟩])
  (.seq (.seq (.reg [
    ⟨none, some 6, false, .mv, [.t 0]⟩,
    ⟨none, some 7, false, .len 1, [.t 6]⟩,
    ⟨none, some 8, false, .mv, [.t 1]⟩,
    ⟨none, some 9, false, .len 1, [.t 8]⟩,
    ⟨none, some 10, false, .bin .neq, [.t 7, .t 9]⟩])
  (.ite (.t 10)
    (.seq (.reg [
      ⟨none, some 4, true, .mv, [.c (.bool false)]⟩])
    .ret)
    .skip))
  (.seq (.seq (.reg [
    ⟨none, some 11, false, .mv, [.t 0]⟩,
    ⟨none, some 12, true, .len 1, [.t 11]⟩,
    ⟨none, some 13, true, .mv, [.c (.int .i64 0)]⟩])
  (.blk 0 (.loop [5] Mc.slices_Equal___string_string__L0)))
  (.seq (.reg [
    ⟨none, some 4, true, .mv, [.c (.bool true)]⟩])
  .ret))))

/-- licit/record.Sources -/
def Ks.record_Sources : List Nat := [0, 1, 4, 5, 6, 7, 9, 10, 11, 12, 14, 24, 25, 26, 35, 36, 37, 46, 47, 48]
def Rs.record_Sources : List RV := [.tmp 4]
def Dl.record_Sources : List (List Nat) := [[9], [11, 12, 14, 46, 47, 48], [14]]
def Mc.record_Sources_L0 : MC := (.seq (.reg [
    ⟨none, some 27, false, .bin .lss, [.t 26, .t 25]⟩])
  (.seq (.ite (.t 27)
    .skip
    (.exit 0))
  (.seq (.blk 1 (.seq (.reg [
    ⟨none, some 28, false, .iadr 6, [.t 24, .t 26]⟩,
    ⟨none, some 29, false, .ld 6 true, [.t 28]⟩,
    ⟨none, some 9, true, .alloc [.int .i64 0, .int .i64 0, .int .i64 0, .nils, .str [], .str []], []⟩,
    ⟨none, none, false, .st 6, [.t 9, .t 29]⟩])
  (.reg [
    ⟨none, some 30, false, .mv, [.t 7]⟩,
    ⟨none, some 31, false, .fadr 4, [.t 9]⟩,
    ⟨none, some 32, false, .fadr 0, [.t 31]⟩,
    ⟨none, some 33, false, .ld 1 false, [.t 32]⟩,
    ⟨none, none, false, .mapup .s, [.t 30, .t 33, .c (.bool true)]⟩])))
  (.reg [
    ⟨none, some 34, false, .bin .add, [.t 26, .c (.int .i64 1)]⟩,
    ⟨none, some 26, true, .mv, [.t 34]⟩]))))
def Mc.record_Sources_L2 : MC := (.seq (.reg [
    ⟨none, some 49, false, .bin .lss, [.t 48, .t 47]⟩])
  (.seq (.ite (.t 49)
    .skip
    (.exit 4))
  (.seq (.blk 5 (.seq (.reg [
    ⟨none, some 50, false, .iadr 2, [.t 46, .t 48]⟩,
    ⟨none, some 51, false, .ld 2 true, [.t 50]⟩,
    ⟨none, some 14, true, .alloc [.str [], .str []], []⟩,
    ⟨none, none, false, .st 2, [.t 14, .t 51]⟩])
  (.seq (.reg [
    ⟨none, some 52, false, .mv, [.t 12]⟩,
    ⟨none, some 53, false, .mv, [.t 52]⟩,
    ⟨some (53, true), some 54, false, .mv, [.t 7]⟩,
    ⟨some (53, true), some 55, false, .fadr 0, [.t 14]⟩,
    ⟨some (53, true), some 56, false, .ld 1 false, [.t 55]⟩,
    ⟨some (53, true), some 57, false, .look .s false (.bool false), [.t 54, .t 56]⟩,
    ⟨some (53, true), some 58, false, .un .not, [.t 57]⟩,
    ⟨none, some 59, false, .pick, [.t 53, .t 58, .c (.bool false)]⟩])
  (.ite (.t 59)
    (.reg [
      ⟨none, some 60, false, .mv, [.t 10]⟩,
      ⟨none, some 61, false, .fadr 0, [.t 14]⟩,
      ⟨none, some 62, false, .ld 1 false, [.t 61]⟩,
      ⟨none, some 63, false, .bsl false 1, [.t 62]⟩,
      ⟨none, some 64, false, .app false 1 16, [.t 60, .t 63]⟩,
      ⟨none, some 10, true, .mv, [.t 64]⟩])
    .skip))))
  (.reg [
    ⟨none, some 65, false, .bin .add, [.t 48, .c (.int .i64 1)]⟩,
    ⟨none, some 48, true, .mv, [.t 65]⟩]))))
def Mc.record_Sources_L1 : MC := (.seq (.reg [
    ⟨none, some 38, false, .bin .lss, [.t 37, .t 36]⟩])
  (.seq (.ite (.t 38)
    .skip
    (.exit 2))
  (.seq (.blk 3 (.seq (.reg [
    ⟨none, some 39, false, .mv, [.t 37]⟩,
    ⟨none, some 40, false, .iadr 1, [.t 35, .t 37]⟩,
    ⟨none, some 41, false, .ld 1 false, [.t 40]⟩,
    ⟨none, some 11, true, .mv, [.t 39]⟩,
    ⟨none, some 12, true, .mv, [.t 41]⟩])
  (.seq (.reg [
    ⟨none, some 42, false, .mv, [.t 0]⟩,
    ⟨none, some 43, false, .mv, [.t 11]⟩,
    ⟨none, some 44, false, .iadr 6, [.t 42, .t 43]⟩,
    ⟨none, some 45, false, .fadr 3, [.t 44]⟩,
    ⟨none, some 46, true, .ld 1 false, [.t 45]⟩,
    ⟨none, some 47, true, .len 1, [.t 46]⟩,
    ⟨none, some 48, true, .mv, [.c (.int .i64 0)]⟩])
  (.blk 4 (.loop [14] Mc.record_Sources_L2)))))
  (.reg [
    ⟨none, some 66, false, .bin .add, [.t 37, .c (.int .i64 1)]⟩,
    ⟨none, some 37, true, .mv, [.t 66]⟩]))))
def Mc.record_Sources : MC := (.seq (.reg [
    ⟨none, some 4, true, .newnil 1, []⟩])
  (.seq (.reg [
    ⟨none, some 16, false, .mv, [.t 0]⟩,
    ⟨none, some 17, false, .mv, [.t 1]⟩,
    ⟨none, some 18, false, .call Fn.record_needed, [.t 16, .t 17]⟩,
    ⟨none, some 15, false, .mv, [.t 18]⟩,
    ⟨none, some 19, false, .ext 0, [.t 15]⟩,
    ⟨none, some 20, false, .ext 1, [.t 15]⟩,
    ⟨none, some 5, true, .mv, [.t 19]⟩,
    ⟨none, some 6, true, .mv, [.t 20]⟩])
  (.seq (.seq (.reg [
    ⟨none, some 21, false, .mv, [.t 6]⟩,
    ⟨none, some 22, false, .un .not, [.t 21]⟩])
  (.ite (.t 22)
    (.seq (.reg [
      ⟨none, some 4, true, .newnil 1, []⟩])
    .ret)
    .skip))
  (.seq (.reg [
    ⟨none, some 23, false, .mkmap, []⟩,
    ⟨none, some 7, true, .mv, [.t 23]⟩])
  (.seq (.seq (.reg [
    ⟨none, some 24, true, .mv, [.t 0]⟩,
    ⟨none, some 25, true, .len 1, [.t 24]⟩,
    ⟨none, some 26, true, .mv, [.c (.int .i64 0)]⟩])
  (.blk 0 (.loop [9] Mc.record_Sources_L0)))
  (.seq (.reg [
    ⟨none, some 10, true, .newnil 1, []⟩])
  (.seq (.seq (.reg [
    ⟨none, some 35, true, .mv, [.t 5]⟩,
    ⟨none, some 36, true, .len 1, [.t 35]⟩,
    ⟨none, some 37, true, .mv, [.c (.int .i64 0)]⟩])
  (.blk 2 (.loop [11, 12, 14, 46, 47, 48] Mc.record_Sources_L1)))
  (.seq (.reg [
    ⟨none, some 67, false, .mv, [.t 10]⟩,
    ⟨none, some 68, false, .call Fn.slices_Sort___string_string_, [.t 67]⟩])
  (.seq (.reg [
    ⟨none, some 69, false, .mv, [.t 10]⟩,
    ⟨none, some 70, false, .call Fn.slices_Compact___string_string_, [.t 69]⟩,
    ⟨none, some 4, true, .mv, [.t 70]⟩])
  .ret)))))))))

/-- licit/record.Affected -/
def Ks.record_Affected : List Nat := [0, 1, 4, 5, 7, 8, 9, 10, 15, 16, 17, 24, 25, 26]
def Rs.record_Affected : List RV := [.tmp 4]
def Dl.record_Affected : List (List Nat) := [[7], [9, 10]]
def Mc.record_Affected_L0 : MC := (.seq (.reg [
    ⟨none, some 18, false, .bin .lss, [.t 17, .t 16]⟩])
  (.seq (.ite (.t 18)
    .skip
    (.exit 0))
  (.seq (.blk 1 (.seq (.reg [
    ⟨none, some 19, false, .iadr 1, [.t 15, .t 17]⟩,
    ⟨none, some 20, false, .ld 1 false, [.t 19]⟩,
    ⟨none, some 7, true, .mv, [.t 20]⟩])
  (.reg [
    ⟨none, some 21, false, .ld 1 false, [.t 5]⟩,
    ⟨none, some 22, false, .mv, [.t 7]⟩,
    ⟨none, none, false, .mapup .s, [.t 21, .t 22, .c (.bool true)]⟩])))
  (.reg [
    ⟨none, some 23, false, .bin .add, [.t 17, .c (.int .i64 1)]⟩,
    ⟨none, some 17, true, .mv, [.t 23]⟩]))))
def Mc.record_Affected_L1 : MC := (.seq (.reg [
    ⟨none, some 27, false, .bin .lss, [.t 26, .t 25]⟩])
  (.seq (.ite (.t 27)
    .skip
    (.exit 2))
  (.seq (.blk 3 (.seq (.reg [
    ⟨none, some 28, false, .mv, [.t 26]⟩,
    ⟨none, some 29, false, .iadr 6, [.t 24, .t 26]⟩,
    ⟨none, some 30, false, .ld 6 true, [.t 29]⟩,
    ⟨none, some 10, true, .alloc [.int .i64 0, .int .i64 0, .int .i64 0, .nils, .str [], .str []], []⟩,
    ⟨none, some 9, true, .mv, [.t 28]⟩,
    ⟨none, none, false, .st 6, [.t 10, .t 30]⟩])
  (.seq (.reg [
    ⟨none, some 31, false, .fadr 3, [.t 10]⟩,
    ⟨none, some 32, false, .ld 1 false, [.t 31]⟩,
    ⟨none, some 33, false, .mkfn Fn.record_Affected_1, [.t 5]⟩,
    ⟨none, some 34, false, .call Fn.slices_ContainsFunc___api_Touch_api_Touch_, [.t 32, .t 33]⟩])
  (.ite (.t 34)
    (.seq (.reg [
      ⟨none, some 35, false, .ld 1 false, [.t 5]⟩,
      ⟨none, some 36, false, .fadr 4, [.t 10]⟩,
      ⟨none, some 37, false, .fadr 0, [.t 36]⟩,
      ⟨none, some 38, false, .ld 1 false, [.t 37]⟩,
      ⟨none, none, false, .mapup .s, [.t 35, .t 38, .c (.bool true)]⟩])
    (.reg [
      ⟨none, some 39, false, .mv, [.t 8]⟩,
      ⟨none, some 40, false, .mv, [.t 9]⟩,
      ⟨none, some 41, false, .bsl false 1, [.t 40]⟩,
      ⟨none, some 42, false, .app false 1 8, [.t 39, .t 41]⟩,
      ⟨none, some 8, true, .mv, [.t 42]⟩]))
    .skip))))
  (.reg [
    ⟨none, some 43, false, .bin .add, [.t 26, .c (.int .i64 1)]⟩,
    ⟨none, some 26, true, .mv, [.t 43]⟩]))))
def Mc.record_Affected : MC := (.seq (.reg [
    ⟨none, some 4, true, .newnil 1, []⟩])
  (.seq (.seq (.reg [
    ⟨none, some 11, false, .mv, [.t 0]⟩,
    ⟨none, some 12, false, .call Fn.record_Check, [.t 11]⟩,
    ⟨none, some 13, false, .bin .neq, [.t 12, .c (.int .i64 0)]⟩])
  (.ite (.t 13)
    (.seq (.reg [
      ⟨none, some 4, true, .newnil 1, []⟩])
    .ret)
    .skip))
  (.seq (.reg [
    ⟨none, some 14, false, .mkmap, []⟩,
    ⟨none, some 5, true, .alloc [.nilm], []⟩,
    ⟨none, none, false, .st 1, [.t 5, .t 14]⟩])
  (.seq (.seq (.reg [
    ⟨none, some 15, true, .mv, [.t 1]⟩,
    ⟨none, some 16, true, .len 1, [.t 15]⟩,
    ⟨none, some 17, true, .mv, [.c (.int .i64 0)]⟩])
  (.blk 0 (.loop [7] Mc.record_Affected_L0)))
  (.seq (.reg [
    ⟨none, some 8, true, .newnil 1, []⟩])
  (.seq (.seq (.reg [
    ⟨none, some 24, true, .mv, [.t 0]⟩,
    ⟨none, some 25, true, .len 1, [.t 24]⟩,
    ⟨none, some 26, true, .mv, [.c (.int .i64 0)]⟩])
  (.blk 2 (.loop [9, 10] Mc.record_Affected_L1)))
  (.seq (.reg [
    ⟨none, some 44, false, .mv, [.t 8]⟩,
    ⟨none, some 4, true, .mv, [.t 44]⟩])
  .ret)))))))

/-- licit/record.files -/
def Ks.record_files : List Nat := [0, 1, 2, 4, 5, 7, 8, 9, 10, 11, 13, 16, 17, 18]
def Rs.record_files : List RV := [.tmp 4]
def Dl.record_files : List (List Nat) := [[7, 8, 9, 10]]
def Mc.record_files_L0 : MC := (.seq (.reg [
    ⟨none, some 19, false, .bin .lss, [.t 18, .t 17]⟩])
  (.seq (.ite (.t 19)
    .skip
    (.exit 0))
  (.seq (.blk 1 (.seq (.reg [
    ⟨none, some 20, false, .iadr 2, [.t 16, .t 18]⟩,
    ⟨none, some 21, false, .ld 2 true, [.t 20]⟩,
    ⟨none, some 7, true, .alloc [.str [], .str []], []⟩,
    ⟨none, none, false, .st 2, [.t 7, .t 21]⟩])
  (.seq (.seq (.reg [
    ⟨none, some 22, false, .ld 2 true, [.t 7]⟩,
    ⟨none, some 23, false, .call Fn.record_touched, [.t 22]⟩,
    ⟨none, some 8, true, .mv, [.t 23]⟩])
  (.seq (.reg [
    ⟨none, some 24, false, .mv, [.t 8]⟩,
    ⟨none, some 25, false, .bin .neq, [.t 24, .c (.int .i64 0)]⟩])
  (.ite (.t 25)
    (.seq (.reg [
      ⟨none, some 26, false, .mv, [.t 8]⟩,
      ⟨none, some 4, true, .mv, [.t 26]⟩])
    .ret)
    .skip)))
  (.seq (.seq (.reg [
    ⟨none, some 27, false, .mv, [.t 5]⟩,
    ⟨none, some 28, false, .fadr 0, [.t 7]⟩,
    ⟨none, some 29, false, .ld 1 false, [.t 28]⟩,
    ⟨none, some 30, false, .look .s false (.bool false), [.t 27, .t 29]⟩])
  (.ite (.t 30)
    (.seq (.reg [
      ⟨none, some 4, true, .mv, [.c (.int .i64 6)]⟩])
    .ret)
    .skip))
  (.seq (.seq (.reg [
    ⟨none, some 32, false, .mv, [.t 1]⟩,
    ⟨none, some 33, false, .fadr 0, [.t 7]⟩,
    ⟨none, some 34, false, .ld 1 false, [.t 33]⟩,
    ⟨none, some 35, false, .look .s true (.str []), [.t 32, .t 34]⟩,
    ⟨none, some 31, false, .mv, [.t 35]⟩,
    ⟨none, some 36, false, .ext 0, [.t 31]⟩,
    ⟨none, some 37, false, .ext 1, [.t 31]⟩,
    ⟨none, some 9, true, .mv, [.t 36]⟩,
    ⟨none, some 10, true, .mv, [.t 37]⟩])
  (.seq (.reg [
    ⟨none, some 38, false, .mv, [.t 10]⟩,
    ⟨none, some 39, false, .mv, [.t 38]⟩,
    ⟨some (39, true), some 40, false, .mv, [.t 9]⟩,
    ⟨some (39, true), some 41, false, .fadr 1, [.t 7]⟩,
    ⟨some (39, true), some 42, false, .ld 1 false, [.t 41]⟩,
    ⟨some (39, true), some 43, false, .bin .neq, [.t 40, .t 42]⟩,
    ⟨none, some 44, false, .pick, [.t 39, .t 43, .c (.bool false)]⟩])
  (.ite (.t 44)
    (.seq (.reg [
      ⟨none, some 4, true, .mv, [.c (.int .i64 9)]⟩])
    .ret)
    .skip)))
  (.reg [
    ⟨none, some 45, false, .mv, [.t 5]⟩,
    ⟨none, some 46, false, .fadr 0, [.t 7]⟩,
    ⟨none, some 47, false, .ld 1 false, [.t 46]⟩,
    ⟨none, none, false, .mapup .s, [.t 45, .t 47, .c (.bool true)]⟩]))))))
  (.reg [
    ⟨none, some 48, false, .bin .add, [.t 18, .c (.int .i64 1)]⟩,
    ⟨none, some 18, true, .mv, [.t 48]⟩]))))
def Mc.record_files : MC := (.seq (.reg [
    ⟨none, some 2, true, .box, [.t 0]⟩,
    ⟨none, some 4, true, .mv, [.c (.int .i64 0)]⟩])
  (.seq (.reg [
    ⟨none, some 14, false, .mkmap, []⟩,
    ⟨none, some 5, true, .mv, [.t 14]⟩])
  (.seq (.seq (.reg [
    ⟨none, some 15, false, .fadr 3, [.t 2]⟩,
    ⟨none, some 16, true, .ld 1 false, [.t 15]⟩,
    ⟨none, some 17, true, .len 1, [.t 16]⟩,
    ⟨none, some 18, true, .mv, [.c (.int .i64 0)]⟩])
  (.blk 0 (.loop [7, 8, 9, 10] Mc.record_files_L0)))
  (.seq (.seq (.reg [
    ⟨none, some 49, false, .fadr 4, [.t 2]⟩,
    ⟨none, some 50, false, .ld 2 true, [.t 49]⟩,
    ⟨none, some 51, false, .call Fn.record_touched, [.t 50]⟩,
    ⟨none, some 11, true, .mv, [.t 51]⟩])
  (.seq (.reg [
    ⟨none, some 52, false, .mv, [.t 11]⟩,
    ⟨none, some 53, false, .bin .neq, [.t 52, .c (.int .i64 0)]⟩])
  (.ite (.t 53)
    (.seq (.reg [
      ⟨none, some 54, false, .mv, [.t 11]⟩,
      ⟨none, some 4, true, .mv, [.t 54]⟩])
    .ret)
    .skip)))
  (.seq (.seq (.reg [
    ⟨none, some 56, false, .mv, [.t 1]⟩,
    ⟨none, some 57, false, .fadr 4, [.t 2]⟩,
    ⟨none, some 58, false, .fadr 0, [.t 57]⟩,
    ⟨none, some 59, false, .ld 1 false, [.t 58]⟩,
    ⟨none, some 60, false, .look .s true (.str []), [.t 56, .t 59]⟩,
    ⟨none, some 55, false, .mv, [.t 60]⟩,
    ⟨none, some 61, false, .ext 0, [.t 55]⟩,
    ⟨none, some 62, false, .ext 1, [.t 55]⟩,
    ⟨none, some 12, false, .mv, [.t 61]⟩,
    ⟨none, some 13, true, .mv, [.t 62]⟩])
  (.seq (.reg [
    ⟨none, some 63, false, .mv, [.t 13]⟩,
    ⟨none, some 64, false, .mv, [.t 63]⟩,
    ⟨some (64, false), some 65, false, .mv, [.t 5]⟩,
    ⟨some (64, false), some 66, false, .fadr 4, [.t 2]⟩,
    ⟨some (64, false), some 67, false, .fadr 0, [.t 66]⟩,
    ⟨some (64, false), some 68, false, .ld 1 false, [.t 67]⟩,
    ⟨some (64, false), some 69, false, .look .s false (.bool false), [.t 65, .t 68]⟩,
    ⟨none, some 70, false, .pick, [.t 64, .c (.bool true), .t 69]⟩])
  (.ite (.t 70)
    (.seq (.reg [
      ⟨none, some 4, true, .mv, [.c (.int .i64 6)]⟩])
    .ret)
    .skip)))
  (.seq (.reg [
    ⟨none, some 4, true, .mv, [.c (.int .i64 0)]⟩])
  .ret))))))

/-- licit/licitref17.Check -/
def Ks.licitref17_Check : List Nat := [0, 2, 3, 4]
def Rs.licitref17_Check : List RV := [.tmp 2]
def Dl.licitref17_Check : List (List Nat) := [[4]]
def Mc.licitref17_Check_L0 : MC := (.seq (.seq (.reg [
    ⟨none, some 8, false, .mv, [.t 3]⟩,
    ⟨none, some 9, false, .mv, [.t 0]⟩,
    ⟨none, some 10, false, .len 1, [.t 9]⟩,
    ⟨none, some 11, false, .bin .lss, [.t 8, .t 10]⟩])
  (.ite (.t 11)
    .skip
    (.exit 0)))
  (.seq (.blk 1 (.seq (.reg [
    ⟨none, some 14, false, .mv, [.t 0]⟩,
    ⟨none, some 15, false, .mv, [.t 3]⟩,
    ⟨none, some 16, false, .call Fn.licitref17_step, [.t 14, .t 15]⟩,
    ⟨none, some 4, true, .mv, [.t 16]⟩])
  (.seq (.reg [
    ⟨none, some 17, false, .mv, [.t 4]⟩,
    ⟨none, some 18, false, .bin .neq, [.t 17, .c (.int .i64 0)]⟩])
  (.ite (.t 18)
    (.seq (.reg [
      ⟨none, some 19, false, .mv, [.t 4]⟩,
      ⟨none, some 2, true, .mv, [.t 19]⟩])
    .ret)
    .skip))))
  (.reg [
    ⟨none, some 12, false, .mv, [.t 3]⟩,
    ⟨none, some 13, false, .bin .add, [.t 12, .c (.int .i64 1)]⟩,
    ⟨none, some 3, true, .mv, [.t 13]⟩])))
def Mc.licitref17_Check : MC := (.seq (.reg [
    ⟨none, some 2, true, .mv, [.c (.int .i64 0)]⟩])
  (.seq (.seq (.reg [
    ⟨none, some 5, false, .mv, [.t 0]⟩,
    ⟨none, some 6, false, .len 1, [.t 5]⟩,
    ⟨none, some 7, false, .bin .gtr, [.t 6, .c (.int .i64 1024)]⟩])
  (.ite (.t 7)
    (.seq (.reg [
      ⟨none, some 2, true, .mv, [.c (.int .i64 10)]⟩])
    .ret)
    .skip))
  (.seq (.seq (.reg [
    ⟨none, some 3, true, .mv, [.c (.int .i64 0)]⟩])
  (.blk 0 (.loop [4] Mc.licitref17_Check_L0)))
  (.seq (.reg [
    ⟨none, some 2, true, .mv, [.c (.int .i64 0)]⟩])
  .ret))))

/-- licit/licitref17.Diverge -/
def Ks.licitref17_Diverge : List Nat := [0, 1, 4, 5]
def Rs.licitref17_Diverge : List RV := [.tmp 4]
def Dl.licitref17_Diverge : List (List Nat) := [[]]
def Mc.licitref17_Diverge_L0 : MC := (.seq (.seq (.reg [
    ⟨none, some 6, false, .mv, [.t 5]⟩,
    ⟨none, some 7, false, .mv, [.t 0]⟩,
    ⟨none, some 8, false, .len 1, [.t 7]⟩,
    ⟨none, some 9, false, .bin .lss, [.t 6, .t 8]⟩,
    ⟨none, some 10, false, .mv, [.t 9]⟩,
    ⟨some (10, false), some 11, false, .mv, [.t 5]⟩,
    ⟨some (10, false), some 12, false, .mv, [.t 1]⟩,
    ⟨some (10, false), some 13, false, .len 1, [.t 12]⟩,
    ⟨some (10, false), some 14, false, .bin .lss, [.t 11, .t 13]⟩,
    ⟨none, some 15, false, .pick, [.t 10, .c (.bool true), .t 14]⟩])
  (.ite (.t 15)
    .skip
    (.exit 0)))
  (.seq (.blk 1 (.seq (.rgd [
    ⟨none, some 18, false, .mv, [.t 5]⟩,
    ⟨none, some 19, false, .mv, [.t 0]⟩,
    ⟨none, some 20, false, .len 1, [.t 19]⟩,
    ⟨none, some 21, false, .bin .geq, [.t 18, .t 20]⟩,
    ⟨none, some 22, false, .mv, [.t 21]⟩,
    ⟨some (22, false), some 23, false, .mv, [.t 5]⟩,
    ⟨some (22, false), some 24, false, .mv, [.t 1]⟩,
    ⟨some (22, false), some 25, false, .len 1, [.t 24]⟩,
    ⟨some (22, false), some 26, false, .bin .geq, [.t 23, .t 25]⟩,
    ⟨none, some 27, false, .pick, [.t 22, .c (.bool true), .t 26]⟩,
    ⟨none, some 28, false, .mv, [.t 27]⟩,
    ⟨some (28, false), some 29, false, .mv, [.t 0]⟩,
    ⟨some (28, false), some 30, false, .mv, [.t 5]⟩,
    ⟨some (28, false), some 31, false, .iadr 6, [.t 29, .t 30]⟩,
    ⟨some (28, false), some 32, false, .ld 6 true, [.t 31]⟩,
    ⟨some (28, false), some 33, false, .mv, [.t 1]⟩,
    ⟨some (28, false), some 34, false, .mv, [.t 5]⟩,
    ⟨some (28, false), some 35, false, .iadr 6, [.t 33, .t 34]⟩,
    ⟨some (28, false), some 36, false, .ld 6 true, [.t 35]⟩,
    ⟨some (28, false), some 37, false, .call Fn.licitref17_Equal, [.t 32, .t 36]⟩,
    ⟨some (28, false), some 38, false, .un .not, [.t 37]⟩,
    ⟨none, some 39, false, .pick, [.t 28, .c (.bool true), .t 38]⟩])
  (.ite (.t 39)
    (.seq (.reg [
      ⟨none, some 40, false, .mv, [.t 5]⟩,
      ⟨none, some 4, true, .mv, [.t 40]⟩])
    .ret)
    .skip)))
  (.reg [
    ⟨none, some 16, false, .mv, [.t 5]⟩,
    ⟨none, some 17, false, .bin .add, [.t 16, .c (.int .i64 1)]⟩,
    ⟨none, some 5, true, .mv, [.t 17]⟩])))
def Mc.licitref17_Diverge : MC := (.seq (.reg [
    ⟨none, some 4, true, .mv, [.c (.int .i64 0)]⟩])
  (.seq (.seq (.reg [
    ⟨none, some 5, true, .mv, [.c (.int .i64 0)]⟩])
  (.blk 0 (.loop [] Mc.licitref17_Diverge_L0)))
  (.seq (.reg [
    ⟨none, some 4, true, .mv, [.c (.int .i64 (-1))]⟩])
  .ret)))

/-- licit/record.equal -/
def Ks.record_equal : List Nat := [0, 1, 2, 3, 4]
def Rs.record_equal : List RV := [.tmp 4]
def Dl.record_equal : List (List Nat) := []
def Mc.record_equal : MC := (.seq (.reg [
    ⟨none, some 2, true, .box, [.t 0]⟩,
    ⟨none, some 3, true, .box, [.t 1]⟩,
    ⟨none, some 4, true, .mv, [.c (.bool false)]⟩])
  (.seq (.reg [
    ⟨none, some 5, false, .fadr 0, [.t 2]⟩,
    ⟨none, some 6, false, .ld 1 false, [.t 5]⟩,
    ⟨none, some 7, false, .fadr 0, [.t 3]⟩,
    ⟨none, some 8, false, .ld 1 false, [.t 7]⟩,
    ⟨none, some 9, false, .bin .eql, [.t 6, .t 8]⟩,
    ⟨none, some 10, false, .mv, [.t 9]⟩,
    ⟨some (10, true), some 11, false, .fadr 1, [.t 2]⟩,
    ⟨some (10, true), some 12, false, .ld 1 false, [.t 11]⟩,
    ⟨some (10, true), some 13, false, .fadr 1, [.t 3]⟩,
    ⟨some (10, true), some 14, false, .ld 1 false, [.t 13]⟩,
    ⟨some (10, true), some 15, false, .bin .eql, [.t 12, .t 14]⟩,
    ⟨none, some 16, false, .pick, [.t 10, .t 15, .c (.bool false)]⟩,
    ⟨none, some 17, false, .mv, [.t 16]⟩,
    ⟨some (17, true), some 18, false, .fadr 2, [.t 2]⟩,
    ⟨some (17, true), some 19, false, .ld 1 false, [.t 18]⟩,
    ⟨some (17, true), some 20, false, .fadr 2, [.t 3]⟩,
    ⟨some (17, true), some 21, false, .ld 1 false, [.t 20]⟩,
    ⟨some (17, true), some 22, false, .bin .eql, [.t 19, .t 21]⟩,
    ⟨none, some 23, false, .pick, [.t 17, .t 22, .c (.bool false)]⟩,
    ⟨none, some 24, false, .mv, [.t 23]⟩,
    ⟨some (24, true), some 25, false, .fadr 4, [.t 2]⟩,
    ⟨some (24, true), some 26, false, .ld 2 true, [.t 25]⟩,
    ⟨some (24, true), some 27, false, .fadr 4, [.t 3]⟩,
    ⟨some (24, true), some 28, false, .ld 2 true, [.t 27]⟩,
    ⟨some (24, true), some 29, false, .eqA false [.s, .s], [.t 26, .t 28]⟩,
    ⟨none, some 30, false, .pick, [.t 24, .t 29, .c (.bool false)]⟩,
    ⟨none, some 31, false, .mv, [.t 30]⟩,
    ⟨some (31, true), some 32, false, .fadr 3, [.t 2]⟩,
    ⟨some (31, true), some 33, false, .ld 1 false, [.t 32]⟩,
    ⟨some (31, true), some 34, false, .fadr 3, [.t 3]⟩,
    ⟨some (31, true), some 35, false, .ld 1 false, [.t 34]⟩,
    ⟨some (31, true), some 36, false, .call Fn.slices_Equal___api_Touch_api_Touch_, [.t 33, .t 35]⟩,
    ⟨none, some 37, false, .pick, [.t 31, .t 36, .c (.bool false)]⟩,
    ⟨none, some 4, true, .mv, [.t 37]⟩])
  .ret))

/-- licit/licitlaw17.touch -/
def Ks.licitlaw17_touch : List Nat := [0, 1, 4]
def Rs.licitlaw17_touch : List RV := [.cell 4 2 true]
def Dl.licitlaw17_touch : List (List Nat) := []
def Mc.licitlaw17_touch : MC := (.seq (.reg [
    ⟨none, some 4, true, .alloc [.str [], .str []], []⟩])
  (.seq (.reg [
    ⟨none, some 5, false, .mv, [.t 0]⟩,
    ⟨none, some 6, false, .mv, [.t 1]⟩,
    ⟨none, some 7, false, .call Fn.strings_Repeat, [.t 6, .c (.int .i64 32)]⟩,
    ⟨none, some 8, false, .bld [.str [], .str []] [(0, 1), (1, 1)], [.t 5, .t 7]⟩,
    ⟨none, none, false, .st 2, [.t 4, .t 8]⟩])
  .ret))

/-- slices.IndexFunc[licit/api.Record,licit/api.Done] -/
def Ks.slices_IndexFunc_api_Record_api_Done_ : List Nat := [0, 1, 4, 5, 7, 8]
def Rs.slices_IndexFunc_api_Record_api_Done_ : List RV := [.tmp 4]
def Dl.slices_IndexFunc_api_Record_api_Done_ : List (List Nat) := [[5]]
def Mc.slices_IndexFunc_api_Record_api_Done__L0 : MC := (.seq (.reg [
    ⟨none, some 9, false, .bin .lss, [.t 8, .t 7]⟩])
  (.seq (.ite (.t 9)
    .skip
    (.exit 0))
  (.seq (.blk 1 (.seq (.reg [
    ⟨none, some 10, false, .mv, [.t 8]⟩,
    ⟨none, some 5, true, .mv, [.t 10]⟩])
  (.seq (.reg [
    ⟨none, some 11, false, .mv, [.t 1]⟩,
    ⟨none, some 12, false, .mv, [.t 0]⟩,
    ⟨none, some 13, false, .mv, [.t 5]⟩,
    ⟨none, some 14, false, .iadr 6, [.t 12, .t 13]⟩,
    ⟨none, some 15, false, .ld 6 true, [.t 14]⟩,
    ⟨none, some 16, false, .callv, [.t 11, .t 15]⟩])
  (.ite (.t 16)
    (.seq (.reg [
      ⟨none, some 17, false, .mv, [.t 5]⟩,
      ⟨none, some 4, true, .mv, [.t 17]⟩])
    .ret)
    .skip))))
  (.reg [
    ⟨none, some 18, false, .bin .add, [.t 8, .c (.int .i64 1)]⟩,
    ⟨none, some 8, true, .mv, [.t 18]⟩]))))
def Mc.slices_IndexFunc_api_Record_api_Done_ : MC := (.seq (.reg [
    ⟨none, some 4, true, .mv, [.c (.int .i64 0)]⟩])
  (.seq (.seq (.reg [
    ⟨none, some 6, false, .mv, [.t 0]⟩,
    ⟨none, some 7, true, .len 1, [.t 6]⟩,
    ⟨none, some 8, true, .mv, [.c (.int .i64 0)]⟩])
  (.blk 0 (.loop [5] Mc.slices_IndexFunc_api_Record_api_Done__L0)))
  (.seq (.reg [
    ⟨none, some 4, true, .mv, [.c (.int .i64 (-1))]⟩])
  .ret)))

/-- licit/record.Writer$1 -/
def Ks.record_Writer_1 : List Nat := [0, 1, 2, 3]
def Rs.record_Writer_1 : List RV := [.tmp 3]
def Dl.record_Writer_1 : List (List Nat) := []
def Mc.record_Writer_1 : MC := (.seq (.reg [
    ⟨none, some 2, true, .box, [.t 0]⟩,
    ⟨none, some 3, true, .mv, [.c (.bool false)]⟩])
  (.seq (.reg [
    ⟨none, some 4, false, .fadr 4, [.t 2]⟩,
    ⟨none, some 5, false, .fadr 0, [.t 4]⟩,
    ⟨none, some 6, false, .ld 1 false, [.t 5]⟩,
    ⟨none, some 7, false, .ld 1 false, [.t 1]⟩,
    ⟨none, some 8, false, .bin .eql, [.t 6, .t 7]⟩,
    ⟨none, some 3, true, .mv, [.t 8]⟩])
  .ret))

/-- licit/record.needed -/
def Ks.record_needed : List Nat := [0, 1, 4, 5, 6, 7, 8, 9, 10, 11, 13, 14, 15, 24, 25, 26, 57, 58, 59]
def Rs.record_needed : List RV := [.tmp 4, .tmp 5]
def Dl.record_needed : List (List Nat) := [[8, 9], [13, 14, 15, 57, 58, 59], [13, 14, 15]]
def Mc.record_needed_L0 : MC := (.seq (.reg [
    ⟨none, some 27, false, .bin .lss, [.t 26, .t 25]⟩])
  (.seq (.ite (.t 27)
    .skip
    (.exit 0))
  (.seq (.blk 1 (.seq (.reg [
    ⟨none, some 28, false, .mv, [.t 26]⟩,
    ⟨none, some 29, false, .iadr 6, [.t 24, .t 26]⟩,
    ⟨none, some 30, false, .ld 6 true, [.t 29]⟩,
    ⟨none, some 9, true, .alloc [.int .i64 0, .int .i64 0, .int .i64 0, .nils, .str [], .str []], []⟩,
    ⟨none, some 8, true, .mv, [.t 28]⟩,
    ⟨none, none, false, .st 6, [.t 9, .t 30]⟩])
  (.reg [
    ⟨none, some 31, false, .mv, [.t 7]⟩,
    ⟨none, some 32, false, .fadr 4, [.t 9]⟩,
    ⟨none, some 33, false, .fadr 0, [.t 32]⟩,
    ⟨none, some 34, false, .ld 1 false, [.t 33]⟩,
    ⟨none, some 35, false, .mv, [.t 8]⟩,
    ⟨none, none, false, .mapup .s, [.t 31, .t 34, .t 35]⟩])))
  (.reg [
    ⟨none, some 36, false, .bin .add, [.t 26, .c (.int .i64 1)]⟩,
    ⟨none, some 26, true, .mv, [.t 36]⟩]))))
def Mc.record_needed_L2 : MC := (.seq (.reg [
    ⟨none, some 60, false, .bin .lss, [.t 59, .t 58]⟩])
  (.seq (.ite (.t 60)
    .skip
    (.exit 4))
  (.seq (.blk 5 (.seq (.reg [
    ⟨none, some 61, false, .iadr 2, [.t 57, .t 59]⟩,
    ⟨none, some 62, false, .ld 2 true, [.t 61]⟩,
    ⟨none, some 13, true, .alloc [.str [], .str []], []⟩,
    ⟨none, none, false, .st 2, [.t 13, .t 62]⟩])
  (.seq (.reg [
    ⟨none, some 64, false, .mv, [.t 7]⟩,
    ⟨none, some 65, false, .fadr 0, [.t 13]⟩,
    ⟨none, some 66, false, .ld 1 false, [.t 65]⟩,
    ⟨none, some 67, false, .look .s true (.int .i64 0), [.t 64, .t 66]⟩,
    ⟨none, some 63, false, .mv, [.t 67]⟩,
    ⟨none, some 68, false, .ext 0, [.t 63]⟩,
    ⟨none, some 69, false, .ext 1, [.t 63]⟩,
    ⟨none, some 14, true, .mv, [.t 68]⟩,
    ⟨none, some 15, true, .mv, [.t 69]⟩])
  (.seq (.reg [
    ⟨none, some 70, false, .mv, [.t 15]⟩])
  (.ite (.t 70)
    (.reg [
      ⟨none, some 71, false, .mv, [.t 10]⟩,
      ⟨none, some 72, false, .mv, [.t 14]⟩,
      ⟨none, some 73, false, .iadr 1, [.t 71, .t 72]⟩,
      ⟨none, none, false, .st 1, [.t 73, .c (.bool true)]⟩])
    .skip)))))
  (.reg [
    ⟨none, some 74, false, .bin .add, [.t 59, .c (.int .i64 1)]⟩,
    ⟨none, some 59, true, .mv, [.t 74]⟩]))))
def Mc.record_needed_L1 : MC := (.seq (.seq (.reg [
    ⟨none, some 44, false, .mv, [.t 11]⟩,
    ⟨none, some 45, false, .bin .geq, [.t 44, .c (.int .i64 0)]⟩])
  (.ite (.t 45)
    .skip
    (.exit 2)))
  (.seq (.blk 3 (.seq (.seq (.reg [
    ⟨none, some 48, false, .mv, [.t 10]⟩,
    ⟨none, some 49, false, .mv, [.t 11]⟩,
    ⟨none, some 50, false, .iadr 1, [.t 48, .t 49]⟩,
    ⟨none, some 51, false, .ld 1 false, [.t 50]⟩,
    ⟨none, some 52, false, .un .not, [.t 51]⟩])
  (.ite (.t 52)
    (.exit 3)
    .skip))
  (.seq (.reg [
    ⟨none, some 53, false, .mv, [.t 0]⟩,
    ⟨none, some 54, false, .mv, [.t 11]⟩,
    ⟨none, some 55, false, .iadr 6, [.t 53, .t 54]⟩,
    ⟨none, some 56, false, .fadr 3, [.t 55]⟩,
    ⟨none, some 57, true, .ld 1 false, [.t 56]⟩,
    ⟨none, some 58, true, .len 1, [.t 57]⟩,
    ⟨none, some 59, true, .mv, [.c (.int .i64 0)]⟩])
  (.blk 4 (.loop [13, 14, 15] Mc.record_needed_L2)))))
  (.reg [
    ⟨none, some 46, false, .mv, [.t 11]⟩,
    ⟨none, some 47, false, .bin .sub, [.t 46, .c (.int .i64 1)]⟩,
    ⟨none, some 11, true, .mv, [.t 47]⟩])))
def Mc.record_needed : MC := (.seq (.reg [
    ⟨none, some 4, true, .newnil 1, []⟩,
    ⟨none, some 5, true, .mv, [.c (.bool false)]⟩])
  (.seq (.reg [
    ⟨none, some 16, false, .mv, [.t 0]⟩,
    ⟨none, some 17, false, .mv, [.t 1]⟩,
    ⟨none, some 18, false, .call Fn.record_Writer, [.t 16, .t 17]⟩,
    ⟨none, some 6, true, .mv, [.t 18]⟩])
  (.seq (.seq (.reg [
    ⟨none, some 19, false, .mv, [.t 6]⟩,
    ⟨none, some 20, false, .bin .lss, [.t 19, .c (.int .i64 0)]⟩])
  (.ite (.t 20)
    (.seq (.reg [
      ⟨none, some 4, true, .newnil 1, []⟩,
      ⟨none, some 5, true, .mv, [.c (.bool false)]⟩])
    .ret)
    .skip))
  (.seq (.reg [
    ⟨none, some 21, false, .mkmap, []⟩,
    ⟨none, some 7, true, .mv, [.t 21]⟩])
  (.seq (.seq (.reg [
    ⟨none, some 22, false, .mv, [.t 0]⟩,
    ⟨none, some 23, false, .mv, [.t 6]⟩,
    ⟨none, some 24, true, .slc (some 6) false true false, [.t 22, .t 23]⟩,
    ⟨none, some 25, true, .len 1, [.t 24]⟩,
    ⟨none, some 26, true, .mv, [.c (.int .i64 0)]⟩])
  (.blk 0 (.loop [8, 9] Mc.record_needed_L0)))
  (.seq (.reg [
    ⟨none, some 37, false, .mv, [.t 0]⟩,
    ⟨none, some 38, false, .len 1, [.t 37]⟩,
    ⟨none, some 39, false, .mksl [.bool false] 1, [.t 38, .t 38]⟩,
    ⟨none, some 10, true, .mv, [.t 39]⟩])
  (.seq (.reg [
    ⟨none, some 40, false, .mv, [.t 10]⟩,
    ⟨none, some 41, false, .mv, [.t 6]⟩,
    ⟨none, some 42, false, .iadr 1, [.t 40, .t 41]⟩,
    ⟨none, none, false, .st 1, [.t 42, .c (.bool true)]⟩])
  (.seq (.seq (.reg [
    ⟨none, some 43, false, .mv, [.t 6]⟩,
    ⟨none, some 11, true, .mv, [.t 43]⟩])
  (.blk 2 (.loop [13, 14, 15, 57, 58, 59] Mc.record_needed_L1)))
  (.seq (.reg [
    ⟨none, some 75, false, .mv, [.t 10]⟩,
    ⟨none, some 4, true, .mv, [.t 75]⟩,
    ⟨none, some 5, true, .mv, [.c (.bool true)]⟩])
  .ret)))))))))

/-- slices.ContainsFunc[[]licit/api.Touch,licit/api.Touch] -/
def Ks.slices_ContainsFunc___api_Touch_api_Touch_ : List Nat := [0, 1, 4]
def Rs.slices_ContainsFunc___api_Touch_api_Touch_ : List RV := [.tmp 4]
def Dl.slices_ContainsFunc___api_Touch_api_Touch_ : List (List Nat) := []
def Mc.slices_ContainsFunc___api_Touch_api_Touch_ : MC := (.seq (.reg [
    ⟨none, some 4, true, .mv, [.c (.bool false)]⟩])
  (.seq (.reg [
    ⟨none, some 5, false, .mv, [.t 0]⟩,
    ⟨none, some 6, false, .mv, [.t 1]⟩,
    ⟨none, some 7, false, .call Fn.slices_IndexFunc___api_Touch_api_Touch_, [.t 5, .t 6]⟩,
    ⟨none, some 8, false, .bin .geq, [.t 7, .c (.int .i64 0)]⟩,
    ⟨none, some 4, true, .mv, [.t 8]⟩])
  .ret))

/-- licit/record.Affected$1 -/
def Ks.record_Affected_1 : List Nat := [0, 1, 2, 3]
def Rs.record_Affected_1 : List RV := [.tmp 3]
def Dl.record_Affected_1 : List (List Nat) := []
def Mc.record_Affected_1 : MC := (.seq (.reg [
    ⟨none, some 2, true, .box, [.t 0]⟩,
    ⟨none, some 3, true, .mv, [.c (.bool false)]⟩])
  (.seq (.reg [
    ⟨none, some 4, false, .ld 1 false, [.t 1]⟩,
    ⟨none, some 5, false, .fadr 0, [.t 2]⟩,
    ⟨none, some 6, false, .ld 1 false, [.t 5]⟩,
    ⟨none, some 7, false, .look .s false (.bool false), [.t 4, .t 6]⟩,
    ⟨none, some 3, true, .mv, [.t 7]⟩])
  .ret))

/-- licit/record.touched -/
def Ks.record_touched : List Nat := [0, 1, 2]
def Rs.record_touched : List RV := [.tmp 2]
def Dl.record_touched : List (List Nat) := []
def Mc.record_touched : MC := (.seq (.reg [
    ⟨none, some 1, true, .box, [.t 0]⟩,
    ⟨none, some 2, true, .mv, [.c (.int .i64 0)]⟩])
  (.seq (.blk 0 (.seq (.reg [
    ⟨none, some 4, false, .fadr 0, [.t 1]⟩,
    ⟨none, some 5, false, .ld 1 false, [.t 4]⟩,
    ⟨none, some 6, false, .call Fn.tree_Path, [.t 5]⟩,
    ⟨none, some 7, false, .bin .neq, [.t 6, .c (.int .i64 0)]⟩,
    ⟨none, some 3, false, .mv, [.t 7]⟩])
  (.ite (.t 3)
    (.seq (.reg [
      ⟨none, some 2, true, .mv, [.c (.int .i64 2)]⟩])
    .ret)
    (.seq (.reg [
      ⟨none, some 9, false, .fadr 1, [.t 1]⟩,
      ⟨none, some 10, false, .ld 1 false, [.t 9]⟩,
      ⟨none, some 11, false, .len 0, [.t 10]⟩,
      ⟨none, some 12, false, .bin .neq, [.t 11, .c (.int .i64 32)]⟩,
      ⟨none, some 8, false, .mv, [.t 12]⟩])
    (.ite (.t 8)
      (.seq (.reg [
        ⟨none, some 2, true, .mv, [.c (.int .i64 17)]⟩])
      .ret)
      .skip)))))
  (.seq (.reg [
    ⟨none, some 2, true, .mv, [.c (.int .i64 0)]⟩])
  .ret)))

/-- licit/licitref17.step -/
def Ks.licitref17_step : List Nat := [0, 1, 4, 5, 6, 7, 8, 9]
def Rs.licitref17_step : List RV := [.tmp 4]
def Dl.licitref17_step : List (List Nat) := [[7, 8, 9]]
def Mc.licitref17_step_L0 : MC := (.seq (.seq (.reg [
    ⟨none, some 87, false, .mv, [.t 6]⟩,
    ⟨none, some 88, false, .fadr 3, [.t 5]⟩,
    ⟨none, some 89, false, .ld 1 false, [.t 88]⟩,
    ⟨none, some 90, false, .len 1, [.t 89]⟩,
    ⟨none, some 91, false, .bin .leq, [.t 87, .t 90]⟩])
  (.ite (.t 91)
    .skip
    (.exit 0)))
  (.seq (.blk 1 (.seq (.reg [
    ⟨none, some 94, false, .fadr 4, [.t 5]⟩,
    ⟨none, some 95, false, .ld 2 true, [.t 94]⟩,
    ⟨none, some 7, true, .alloc [.str [], .str []], []⟩,
    ⟨none, none, false, .st 2, [.t 7, .t 95]⟩])
  (.seq (.seq (.reg [
    ⟨none, some 96, false, .mv, [.t 6]⟩,
    ⟨none, some 97, false, .fadr 3, [.t 5]⟩,
    ⟨none, some 98, false, .ld 1 false, [.t 97]⟩,
    ⟨none, some 99, false, .len 1, [.t 98]⟩,
    ⟨none, some 100, false, .bin .lss, [.t 96, .t 99]⟩])
  (.ite (.t 100)
    (.reg [
      ⟨none, some 101, false, .fadr 3, [.t 5]⟩,
      ⟨none, some 102, false, .ld 1 false, [.t 101]⟩,
      ⟨none, some 103, false, .mv, [.t 6]⟩,
      ⟨none, some 104, false, .iadr 2, [.t 102, .t 103]⟩,
      ⟨none, some 105, false, .ld 2 true, [.t 104]⟩,
      ⟨none, none, false, .st 2, [.t 7, .t 105]⟩])
    .skip))
  (.seq (.seq (.reg [
    ⟨none, some 106, false, .fadr 0, [.t 7]⟩,
    ⟨none, some 107, false, .ld 1 false, [.t 106]⟩,
    ⟨none, some 108, false, .call Fn.licitref16_Path, [.t 107]⟩,
    ⟨none, some 109, false, .un .not, [.t 108]⟩])
  (.ite (.t 109)
    (.seq (.reg [
      ⟨none, some 4, true, .mv, [.c (.int .i64 2)]⟩])
    .ret)
    .skip))
  (.seq (.seq (.reg [
    ⟨none, some 110, false, .fadr 1, [.t 7]⟩,
    ⟨none, some 111, false, .ld 1 false, [.t 110]⟩,
    ⟨none, some 112, false, .len 0, [.t 111]⟩,
    ⟨none, some 113, false, .bin .neq, [.t 112, .c (.int .i64 32)]⟩])
  (.ite (.t 113)
    (.seq (.reg [
      ⟨none, some 4, true, .mv, [.c (.int .i64 17)]⟩])
    .ret)
    .skip))
  (.seq (.reg [
    ⟨none, some 115, false, .mv, [.t 0]⟩,
    ⟨none, some 116, false, .mv, [.t 1]⟩,
    ⟨none, some 117, false, .fadr 0, [.t 7]⟩,
    ⟨none, some 118, false, .ld 1 false, [.t 117]⟩,
    ⟨none, some 119, false, .call Fn.licitref17_touched, [.t 115, .t 116, .t 118]⟩,
    ⟨none, some 114, false, .mv, [.t 119]⟩,
    ⟨none, some 120, false, .ext 0, [.t 114]⟩,
    ⟨none, some 121, false, .ext 1, [.t 114]⟩,
    ⟨none, some 8, true, .mv, [.t 120]⟩,
    ⟨none, some 9, true, .mv, [.t 121]⟩])
  (.seq (.seq (.reg [
    ⟨none, some 122, false, .fadr 3, [.t 5]⟩,
    ⟨none, some 123, false, .ld 1 false, [.t 122]⟩,
    ⟨none, some 124, false, .mv, [.t 6]⟩,
    ⟨none, some 125, false, .fadr 0, [.t 7]⟩,
    ⟨none, some 126, false, .ld 1 false, [.t 125]⟩,
    ⟨none, some 127, false, .call Fn.licitref17_among, [.t 123, .t 124, .t 126]⟩,
    ⟨none, some 128, false, .bin .geq, [.t 127, .c (.int .i64 0)]⟩,
    ⟨none, some 129, false, .mv, [.t 128]⟩,
    ⟨some (129, false), some 130, false, .mv, [.t 6]⟩,
    ⟨some (129, false), some 131, false, .fadr 3, [.t 5]⟩,
    ⟨some (129, false), some 132, false, .ld 1 false, [.t 131]⟩,
    ⟨some (129, false), some 133, false, .len 1, [.t 132]⟩,
    ⟨some (129, false), some 134, false, .bin .eql, [.t 130, .t 133]⟩,
    ⟨some (129, false), some 135, false, .mv, [.t 134]⟩,
    ⟨some (135, true), some 136, false, .mv, [.t 9]⟩,
    ⟨some (129, false), some 137, false, .pick, [.t 135, .t 136, .c (.bool false)]⟩,
    ⟨none, some 138, false, .pick, [.t 129, .c (.bool true), .t 137]⟩])
  (.ite (.t 138)
    (.seq (.reg [
      ⟨none, some 4, true, .mv, [.c (.int .i64 6)]⟩])
    .ret)
    .skip))
  (.seq (.reg [
    ⟨none, some 139, false, .mv, [.t 9]⟩,
    ⟨none, some 140, false, .mv, [.t 139]⟩,
    ⟨some (140, true), some 141, false, .mv, [.t 8]⟩,
    ⟨some (140, true), some 142, false, .fadr 1, [.t 7]⟩,
    ⟨some (140, true), some 143, false, .ld 1 false, [.t 142]⟩,
    ⟨some (140, true), some 144, false, .bin .neq, [.t 141, .t 143]⟩,
    ⟨none, some 145, false, .pick, [.t 140, .t 144, .c (.bool false)]⟩])
  (.ite (.t 145)
    (.seq (.reg [
      ⟨none, some 4, true, .mv, [.c (.int .i64 9)]⟩])
    .ret)
    .skip)))))))))
  (.reg [
    ⟨none, some 92, false, .mv, [.t 6]⟩,
    ⟨none, some 93, false, .bin .add, [.t 92, .c (.int .i64 1)]⟩,
    ⟨none, some 6, true, .mv, [.t 93]⟩])))
def Mc.licitref17_step : MC := (.seq (.reg [
    ⟨none, some 4, true, .mv, [.c (.int .i64 0)]⟩])
  (.seq (.reg [
    ⟨none, some 10, false, .mv, [.t 0]⟩,
    ⟨none, some 11, false, .mv, [.t 1]⟩,
    ⟨none, some 12, false, .iadr 6, [.t 10, .t 11]⟩,
    ⟨none, some 13, false, .ld 6 true, [.t 12]⟩,
    ⟨none, some 5, true, .alloc [.int .i64 0, .int .i64 0, .int .i64 0, .nils, .str [], .str []], []⟩,
    ⟨none, none, false, .st 6, [.t 5, .t 13]⟩])
  (.seq (.seq (.reg [
    ⟨none, some 14, false, .fadr 0, [.t 5]⟩,
    ⟨none, some 15, false, .ld 1 false, [.t 14]⟩,
    ⟨none, some 16, false, .bin .lss, [.t 15, .c (.int .i64 0)]⟩,
    ⟨none, some 17, false, .mv, [.t 16]⟩,
    ⟨some (17, false), some 18, false, .fadr 0, [.t 5]⟩,
    ⟨some (17, false), some 19, false, .ld 1 false, [.t 18]⟩,
    ⟨some (17, false), some 20, false, .bin .geq, [.t 19, .c (.int .i64 16)]⟩,
    ⟨none, some 21, false, .pick, [.t 17, .c (.bool true), .t 20]⟩,
    ⟨none, some 22, false, .mv, [.t 21]⟩,
    ⟨some (22, false), some 23, false, .fadr 1, [.t 5]⟩,
    ⟨some (22, false), some 24, false, .ld 1 false, [.t 23]⟩,
    ⟨some (22, false), some 25, false, .bin .lss, [.t 24, .c (.int .i64 0)]⟩,
    ⟨none, some 26, false, .pick, [.t 22, .c (.bool true), .t 25]⟩,
    ⟨none, some 27, false, .mv, [.t 26]⟩,
    ⟨some (27, false), some 28, false, .fadr 1, [.t 5]⟩,
    ⟨some (27, false), some 29, false, .ld 1 false, [.t 28]⟩,
    ⟨some (27, false), some 30, false, .bin .geq, [.t 29, .c (.int .i64 1024)]⟩,
    ⟨none, some 31, false, .pick, [.t 27, .c (.bool true), .t 30]⟩,
    ⟨none, some 32, false, .mv, [.t 31]⟩,
    ⟨some (32, false), some 33, false, .fadr 2, [.t 5]⟩,
    ⟨some (32, false), some 34, false, .ld 1 false, [.t 33]⟩,
    ⟨some (32, false), some 35, false, .bin .lss, [.t 34, .c (.int .i64 1)]⟩,
    ⟨none, some 36, false, .pick, [.t 32, .c (.bool true), .t 35]⟩,
    ⟨none, some 37, false, .mv, [.t 36]⟩,
    ⟨some (37, false), some 38, false, .fadr 2, [.t 5]⟩,
    ⟨some (37, false), some 39, false, .ld 1 false, [.t 38]⟩,
    ⟨some (37, false), some 40, false, .bin .gtr, [.t 39, .c (.int .i64 8)]⟩,
    ⟨none, some 41, false, .pick, [.t 37, .c (.bool true), .t 40]⟩])
  (.ite (.t 41)
    (.seq (.reg [
      ⟨none, some 4, true, .mv, [.c (.int .i64 3)]⟩])
    .ret)
    .skip))
  (.seq (.seq (.rgd [
    ⟨none, some 42, false, .mv, [.t 1]⟩,
    ⟨none, some 43, false, .bin .gtr, [.t 42, .c (.int .i64 0)]⟩,
    ⟨none, some 44, false, .mv, [.t 43]⟩,
    ⟨some (44, true), some 45, false, .fadr 0, [.t 5]⟩,
    ⟨some (44, true), some 46, false, .ld 1 false, [.t 45]⟩,
    ⟨some (44, true), some 47, false, .mv, [.t 0]⟩,
    ⟨some (44, true), some 48, false, .mv, [.t 1]⟩,
    ⟨some (44, true), some 49, false, .bin .sub, [.t 48, .c (.int .i64 1)]⟩,
    ⟨some (44, true), some 50, false, .iadr 6, [.t 47, .t 49]⟩,
    ⟨some (44, true), some 51, false, .fadr 0, [.t 50]⟩,
    ⟨some (44, true), some 52, false, .ld 1 false, [.t 51]⟩,
    ⟨some (44, true), some 53, false, .bin .lss, [.t 46, .t 52]⟩,
    ⟨some (44, true), some 54, false, .mv, [.t 53]⟩,
    ⟨some (54, false), some 55, false, .fadr 0, [.t 5]⟩,
    ⟨some (54, false), some 56, false, .ld 1 false, [.t 55]⟩,
    ⟨some (54, false), some 57, false, .mv, [.t 0]⟩,
    ⟨some (54, false), some 58, false, .mv, [.t 1]⟩,
    ⟨some (54, false), some 59, false, .bin .sub, [.t 58, .c (.int .i64 1)]⟩,
    ⟨some (54, false), some 60, false, .iadr 6, [.t 57, .t 59]⟩,
    ⟨some (54, false), some 61, false, .fadr 0, [.t 60]⟩,
    ⟨some (54, false), some 62, false, .ld 1 false, [.t 61]⟩,
    ⟨some (54, false), some 63, false, .bin .eql, [.t 56, .t 62]⟩,
    ⟨some (54, false), some 64, false, .mv, [.t 63]⟩,
    ⟨some (64, true), some 65, false, .fadr 1, [.t 5]⟩,
    ⟨some (64, true), some 66, false, .ld 1 false, [.t 65]⟩,
    ⟨some (64, true), some 67, false, .mv, [.t 0]⟩,
    ⟨some (64, true), some 68, false, .mv, [.t 1]⟩,
    ⟨some (64, true), some 69, false, .bin .sub, [.t 68, .c (.int .i64 1)]⟩,
    ⟨some (64, true), some 70, false, .iadr 6, [.t 67, .t 69]⟩,
    ⟨some (64, true), some 71, false, .fadr 1, [.t 70]⟩,
    ⟨some (64, true), some 72, false, .ld 1 false, [.t 71]⟩,
    ⟨some (64, true), some 73, false, .bin .leq, [.t 66, .t 72]⟩,
    ⟨some (54, false), some 74, false, .pick, [.t 64, .t 73, .c (.bool false)]⟩,
    ⟨some (44, true), some 75, false, .pick, [.t 54, .c (.bool true), .t 74]⟩,
    ⟨none, some 76, false, .pick, [.t 44, .t 75, .c (.bool false)]⟩])
  (.ite (.t 76)
    (.seq (.reg [
      ⟨none, some 4, true, .mv, [.c (.int .i64 5)]⟩])
    .ret)
    .skip))
  (.seq (.seq (.reg [
    ⟨none, some 77, false, .fadr 3, [.t 5]⟩,
    ⟨none, some 78, false, .ld 1 false, [.t 77]⟩,
    ⟨none, some 79, false, .len 1, [.t 78]⟩,
    ⟨none, some 80, false, .bin .eql, [.t 79, .c (.int .i64 0)]⟩,
    ⟨none, some 81, false, .mv, [.t 80]⟩,
    ⟨some (81, false), some 82, false, .fadr 3, [.t 5]⟩,
    ⟨some (81, false), some 83, false, .ld 1 false, [.t 82]⟩,
    ⟨some (81, false), some 84, false, .len 1, [.t 83]⟩,
    ⟨some (81, false), some 85, false, .bin .gtr, [.t 84, .c (.int .i64 1024)]⟩,
    ⟨none, some 86, false, .pick, [.t 81, .c (.bool true), .t 85]⟩])
  (.ite (.t 86)
    (.seq (.reg [
      ⟨none, some 4, true, .mv, [.c (.int .i64 1)]⟩])
    .ret)
    .skip))
  (.seq (.seq (.reg [
    ⟨none, some 6, true, .mv, [.c (.int .i64 0)]⟩])
  (.blk 0 (.loop [7, 8, 9] Mc.licitref17_step_L0)))
  (.seq (.reg [
    ⟨none, some 4, true, .mv, [.c (.int .i64 0)]⟩])
  .ret)))))))

/-- licit/licitref17.Equal -/
def Ks.licitref17_Equal : List Nat := [0, 1, 2, 3, 4, 5]
def Rs.licitref17_Equal : List RV := [.tmp 4]
def Dl.licitref17_Equal : List (List Nat) := [[]]
def Mc.licitref17_Equal_L0 : MC := (.seq (.seq (.reg [
    ⟨none, some 41, false, .mv, [.t 5]⟩,
    ⟨none, some 42, false, .fadr 3, [.t 2]⟩,
    ⟨none, some 43, false, .ld 1 false, [.t 42]⟩,
    ⟨none, some 44, false, .len 1, [.t 43]⟩,
    ⟨none, some 45, false, .bin .lss, [.t 41, .t 44]⟩])
  (.ite (.t 45)
    .skip
    (.exit 0)))
  (.seq (.blk 1 (.seq (.rgd [
    ⟨none, some 48, false, .fadr 3, [.t 2]⟩,
    ⟨none, some 49, false, .ld 1 false, [.t 48]⟩,
    ⟨none, some 50, false, .mv, [.t 5]⟩,
    ⟨none, some 51, false, .iadr 2, [.t 49, .t 50]⟩,
    ⟨none, some 52, false, .ld 2 true, [.t 51]⟩,
    ⟨none, some 53, false, .fadr 3, [.t 3]⟩,
    ⟨none, some 54, false, .ld 1 false, [.t 53]⟩,
    ⟨none, some 55, false, .mv, [.t 5]⟩,
    ⟨none, some 56, false, .iadr 2, [.t 54, .t 55]⟩,
    ⟨none, some 57, false, .ld 2 true, [.t 56]⟩,
    ⟨none, some 58, false, .eqA true [.s, .s], [.t 52, .t 57]⟩])
  (.ite (.t 58)
    (.seq (.reg [
      ⟨none, some 4, true, .mv, [.c (.bool false)]⟩])
    .ret)
    .skip)))
  (.reg [
    ⟨none, some 46, false, .mv, [.t 5]⟩,
    ⟨none, some 47, false, .bin .add, [.t 46, .c (.int .i64 1)]⟩,
    ⟨none, some 5, true, .mv, [.t 47]⟩])))
def Mc.licitref17_Equal : MC := (.seq (.reg [
    ⟨none, some 2, true, .box, [.t 0]⟩,
    ⟨none, some 3, true, .box, [.t 1]⟩,
    ⟨none, some 4, true, .mv, [.c (.bool false)]⟩])
  (.seq (.seq (.reg [
    ⟨none, some 6, false, .fadr 0, [.t 2]⟩,
    ⟨none, some 7, false, .ld 1 false, [.t 6]⟩,
    ⟨none, some 8, false, .fadr 0, [.t 3]⟩,
    ⟨none, some 9, false, .ld 1 false, [.t 8]⟩,
    ⟨none, some 10, false, .bin .neq, [.t 7, .t 9]⟩,
    ⟨none, some 11, false, .mv, [.t 10]⟩,
    ⟨some (11, false), some 12, false, .fadr 1, [.t 2]⟩,
    ⟨some (11, false), some 13, false, .ld 1 false, [.t 12]⟩,
    ⟨some (11, false), some 14, false, .fadr 1, [.t 3]⟩,
    ⟨some (11, false), some 15, false, .ld 1 false, [.t 14]⟩,
    ⟨some (11, false), some 16, false, .bin .neq, [.t 13, .t 15]⟩,
    ⟨none, some 17, false, .pick, [.t 11, .c (.bool true), .t 16]⟩,
    ⟨none, some 18, false, .mv, [.t 17]⟩,
    ⟨some (18, false), some 19, false, .fadr 2, [.t 2]⟩,
    ⟨some (18, false), some 20, false, .ld 1 false, [.t 19]⟩,
    ⟨some (18, false), some 21, false, .fadr 2, [.t 3]⟩,
    ⟨some (18, false), some 22, false, .ld 1 false, [.t 21]⟩,
    ⟨some (18, false), some 23, false, .bin .neq, [.t 20, .t 22]⟩,
    ⟨none, some 24, false, .pick, [.t 18, .c (.bool true), .t 23]⟩,
    ⟨none, some 25, false, .mv, [.t 24]⟩,
    ⟨some (25, false), some 26, false, .fadr 4, [.t 2]⟩,
    ⟨some (25, false), some 27, false, .ld 2 true, [.t 26]⟩,
    ⟨some (25, false), some 28, false, .fadr 4, [.t 3]⟩,
    ⟨some (25, false), some 29, false, .ld 2 true, [.t 28]⟩,
    ⟨some (25, false), some 30, false, .eqA true [.s, .s], [.t 27, .t 29]⟩,
    ⟨none, some 31, false, .pick, [.t 25, .c (.bool true), .t 30]⟩,
    ⟨none, some 32, false, .mv, [.t 31]⟩,
    ⟨some (32, false), some 33, false, .fadr 3, [.t 2]⟩,
    ⟨some (32, false), some 34, false, .ld 1 false, [.t 33]⟩,
    ⟨some (32, false), some 35, false, .len 1, [.t 34]⟩,
    ⟨some (32, false), some 36, false, .fadr 3, [.t 3]⟩,
    ⟨some (32, false), some 37, false, .ld 1 false, [.t 36]⟩,
    ⟨some (32, false), some 38, false, .len 1, [.t 37]⟩,
    ⟨some (32, false), some 39, false, .bin .neq, [.t 35, .t 38]⟩,
    ⟨none, some 40, false, .pick, [.t 32, .c (.bool true), .t 39]⟩])
  (.ite (.t 40)
    (.seq (.reg [
      ⟨none, some 4, true, .mv, [.c (.bool false)]⟩])
    .ret)
    .skip))
  (.seq (.seq (.reg [
    ⟨none, some 5, true, .mv, [.c (.int .i64 0)]⟩])
  (.blk 0 (.loop [] Mc.licitref17_Equal_L0)))
  (.seq (.reg [
    ⟨none, some 4, true, .mv, [.c (.bool true)]⟩])
  .ret))))

/-- slices.Equal[[]licit/api.Touch,licit/api.Touch] -/
def Ks.slices_Equal___api_Touch_api_Touch_ : List Nat := [0, 1, 4, 5, 12, 13]
def Rs.slices_Equal___api_Touch_api_Touch_ : List RV := [.tmp 4]
def Dl.slices_Equal___api_Touch_api_Touch_ : List (List Nat) := [[5]]
def Mc.slices_Equal___api_Touch_api_Touch__L0 : MC := (.seq (.reg [
    ⟨none, some 14, false, .bin .lss, [.t 13, .t 12]⟩])
  (.seq (.ite (.t 14)
    .skip
    (.exit 0))
  (.seq (.blk 1 (.seq (.reg [
    ⟨none, some 15, false, .mv, [.t 13]⟩,
    ⟨none, some 5, true, .mv, [.t 15]⟩])
  (.seq (.rgd [
    ⟨none, some 16, false, .mv, [.t 0]⟩,
    ⟨none, some 17, false, .mv, [.t 5]⟩,
    ⟨none, some 18, false, .iadr 2, [.t 16, .t 17]⟩,
    ⟨none, some 19, false, .ld 2 true, [.t 18]⟩,
    ⟨none, some 20, false, .mv, [.t 1]⟩,
    ⟨none, some 21, false, .mv, [.t 5]⟩,
    ⟨none, some 22, false, .iadr 2, [.t 20, .t 21]⟩,
    ⟨none, some 23, false, .ld 2 true, [.t 22]⟩,
    ⟨none, some 24, false, .eqA true [.s, .s], [.t 19, .t 23]⟩])
  (.ite (.t 24)
    (.seq (.reg [
      ⟨none, some 4, true, .mv, [.c (.bool false)]⟩])
    .ret)
    .skip))))
  (.reg [
    ⟨none, some 25, false, .bin .add, [.t 13, .c (.int .i64 1)]⟩,
    ⟨none, some 13, true, .mv, [.t 25]⟩]))))
def Mc.slices_Equal___api_Touch_api_Touch_ : MC := (.seq (.reg [
    ⟨none, some 4, true, .mv, [.c (.bool false)]⟩])
  (.seq (.seq (.reg [
    ⟨none, some 6, false, .mv, [.t 0]⟩,
    ⟨none, some 7, false, .len 1, [.t 6]⟩,
    ⟨none, some 8, false, .mv, [.t 1]⟩,
    ⟨none, some 9, false, .len 1, [.t 8]⟩,
    ⟨none, some 10, false, .bin .neq, [.t 7, .t 9]⟩])
  (.ite (.t 10)
    (.seq (.reg [
      ⟨none, some 4, true, .mv, [.c (.bool false)]⟩])
    .ret)
    .skip))
  (.seq (.seq (.reg [
    ⟨none, some 11, false, .mv, [.t 0]⟩,
    ⟨none, some 12, true, .len 1, [.t 11]⟩,
    ⟨none, some 13, true, .mv, [.c (.int .i64 0)]⟩])
  (.blk 0 (.loop [5] Mc.slices_Equal___api_Touch_api_Touch__L0)))
  (.seq (.reg [
    ⟨none, some 4, true, .mv, [.c (.bool true)]⟩])
  .ret))))

/-- slices.IndexFunc[[]licit/api.Touch,licit/api.Touch] -/
def Ks.slices_IndexFunc___api_Touch_api_Touch_ : List Nat := [0, 1, 4, 5, 7, 8]
def Rs.slices_IndexFunc___api_Touch_api_Touch_ : List RV := [.tmp 4]
def Dl.slices_IndexFunc___api_Touch_api_Touch_ : List (List Nat) := [[5]]
def Mc.slices_IndexFunc___api_Touch_api_Touch__L0 : MC := (.seq (.reg [
    ⟨none, some 9, false, .bin .lss, [.t 8, .t 7]⟩])
  (.seq (.ite (.t 9)
    .skip
    (.exit 0))
  (.seq (.blk 1 (.seq (.reg [
    ⟨none, some 10, false, .mv, [.t 8]⟩,
    ⟨none, some 5, true, .mv, [.t 10]⟩])
  (.seq (.reg [
    ⟨none, some 11, false, .mv, [.t 1]⟩,
    ⟨none, some 12, false, .mv, [.t 0]⟩,
    ⟨none, some 13, false, .mv, [.t 5]⟩,
    ⟨none, some 14, false, .iadr 2, [.t 12, .t 13]⟩,
    ⟨none, some 15, false, .ld 2 true, [.t 14]⟩,
    ⟨none, some 16, false, .callv, [.t 11, .t 15]⟩])
  (.ite (.t 16)
    (.seq (.reg [
      ⟨none, some 17, false, .mv, [.t 5]⟩,
      ⟨none, some 4, true, .mv, [.t 17]⟩])
    .ret)
    .skip))))
  (.reg [
    ⟨none, some 18, false, .bin .add, [.t 8, .c (.int .i64 1)]⟩,
    ⟨none, some 8, true, .mv, [.t 18]⟩]))))
def Mc.slices_IndexFunc___api_Touch_api_Touch_ : MC := (.seq (.reg [
    ⟨none, some 4, true, .mv, [.c (.int .i64 0)]⟩])
  (.seq (.seq (.reg [
    ⟨none, some 6, false, .mv, [.t 0]⟩,
    ⟨none, some 7, true, .len 1, [.t 6]⟩,
    ⟨none, some 8, true, .mv, [.c (.int .i64 0)]⟩])
  (.blk 0 (.loop [5] Mc.slices_IndexFunc___api_Touch_api_Touch__L0)))
  (.seq (.reg [
    ⟨none, some 4, true, .mv, [.c (.int .i64 (-1))]⟩])
  .ret)))

/-- licit/tree.Path -/
def Ks.tree_Path : List Nat := [0, 2, 3]
def Rs.tree_Path : List RV := [.tmp 2]
def Dl.tree_Path : List (List Nat) := []
def Mc.tree_Path : MC := (.seq (.reg [
    ⟨none, some 2, true, .mv, [.c (.int .i64 0)]⟩])
  (.seq (.reg [
    ⟨none, some 4, false, .mv, [.t 0]⟩,
    ⟨none, some 5, false, .call Fn.strings_Split, [.t 4, .c (.str [47])]⟩,
    ⟨none, some 3, true, .mv, [.t 5]⟩])
  (.seq (.seq (.reg [
    ⟨none, some 6, false, .mv, [.t 0]⟩,
    ⟨none, some 7, false, .len 0, [.t 6]⟩,
    ⟨none, some 8, false, .bin .gtr, [.t 7, .c (.int .i64 128)]⟩,
    ⟨none, some 9, false, .mv, [.t 8]⟩,
    ⟨some (9, false), some 10, false, .mv, [.t 3]⟩,
    ⟨some (9, false), some 11, false, .len 1, [.t 10]⟩,
    ⟨some (9, false), some 12, false, .bin .gtr, [.t 11, .c (.int .i64 8)]⟩,
    ⟨none, some 13, false, .pick, [.t 9, .c (.bool true), .t 12]⟩,
    ⟨none, some 14, false, .mv, [.t 13]⟩,
    ⟨some (14, false), some 15, false, .mv, [.t 3]⟩,
    ⟨some (14, false), some 16, false, .call Fn.slices_ContainsFunc___string_string_, [.t 15, .c (.fn Fn.tree_Path_1 [])]⟩,
    ⟨none, some 17, false, .pick, [.t 14, .c (.bool true), .t 16]⟩])
  (.ite (.t 17)
    (.seq (.reg [
      ⟨none, some 2, true, .mv, [.c (.int .i64 2)]⟩])
    .ret)
    .skip))
  (.seq (.reg [
    ⟨none, some 2, true, .mv, [.c (.int .i64 0)]⟩])
  .ret))))

/-- licit/licitref16.Path -/
def Ks.licitref16_Path : List Nat := [0, 2, 3, 4, 5]
def Rs.licitref16_Path : List RV := [.tmp 2]
def Dl.licitref16_Path : List (List Nat) := [[]]
def Mc.licitref16_Path_L0 : MC := (.seq (.seq (.reg [
    ⟨none, some 9, false, .mv, [.t 5]⟩,
    ⟨none, some 10, false, .mv, [.t 0]⟩,
    ⟨none, some 11, false, .len 0, [.t 10]⟩,
    ⟨none, some 12, false, .bin .leq, [.t 9, .t 11]⟩])
  (.ite (.t 12)
    .skip
    (.exit 0)))
  (.seq (.blk 1 (.seq (.seq (.reg [
    ⟨none, some 15, false, .mv, [.t 5]⟩,
    ⟨none, some 16, false, .mv, [.t 0]⟩,
    ⟨none, some 17, false, .len 0, [.t 16]⟩,
    ⟨none, some 18, false, .bin .lss, [.t 15, .t 17]⟩,
    ⟨none, some 19, false, .mv, [.t 18]⟩,
    ⟨some (19, true), some 20, false, .mv, [.t 0]⟩,
    ⟨some (19, true), some 21, false, .mv, [.t 5]⟩,
    ⟨some (19, true), some 22, false, .istr, [.t 20, .t 21]⟩,
    ⟨some (19, true), some 23, false, .bin .neq, [.t 22, .c (.int .u8 47)]⟩,
    ⟨none, some 24, false, .pick, [.t 19, .t 23, .c (.bool false)]⟩])
  (.ite (.t 24)
    (.exit 1)
    .skip))
  (.seq (.seq (.reg [
    ⟨none, some 25, false, .mv, [.t 0]⟩,
    ⟨none, some 26, false, .mv, [.t 4]⟩,
    ⟨none, some 27, false, .mv, [.t 5]⟩,
    ⟨none, some 28, false, .slc none true true false, [.t 25, .t 26, .t 27]⟩,
    ⟨none, some 29, false, .call Fn.licitref16_name, [.t 28]⟩,
    ⟨none, some 30, false, .un .not, [.t 29]⟩])
  (.ite (.t 30)
    (.seq (.reg [
      ⟨none, some 2, true, .mv, [.c (.bool false)]⟩])
    .ret)
    .skip))
  (.reg [
    ⟨none, some 31, false, .mv, [.t 3]⟩,
    ⟨none, some 32, false, .bin .add, [.t 31, .c (.int .i64 1)]⟩,
    ⟨none, some 33, false, .mv, [.t 5]⟩,
    ⟨none, some 34, false, .bin .add, [.t 33, .c (.int .i64 1)]⟩,
    ⟨none, some 3, true, .mv, [.t 32]⟩,
    ⟨none, some 4, true, .mv, [.t 34]⟩]))))
  (.reg [
    ⟨none, some 13, false, .mv, [.t 5]⟩,
    ⟨none, some 14, false, .bin .add, [.t 13, .c (.int .i64 1)]⟩,
    ⟨none, some 5, true, .mv, [.t 14]⟩])))
def Mc.licitref16_Path : MC := (.seq (.reg [
    ⟨none, some 2, true, .mv, [.c (.bool false)]⟩])
  (.seq (.seq (.reg [
    ⟨none, some 6, false, .mv, [.t 0]⟩,
    ⟨none, some 7, false, .len 0, [.t 6]⟩,
    ⟨none, some 8, false, .bin .gtr, [.t 7, .c (.int .i64 128)]⟩])
  (.ite (.t 8)
    (.seq (.reg [
      ⟨none, some 2, true, .mv, [.c (.bool false)]⟩])
    .ret)
    .skip))
  (.seq (.reg [
    ⟨none, some 3, true, .mv, [.c (.int .i64 0)]⟩,
    ⟨none, some 4, true, .mv, [.c (.int .i64 0)]⟩])
  (.seq (.seq (.reg [
    ⟨none, some 5, true, .mv, [.c (.int .i64 0)]⟩])
  (.blk 0 (.loop [] Mc.licitref16_Path_L0)))
  (.seq (.reg [
    ⟨none, some 35, false, .mv, [.t 3]⟩,
    ⟨none, some 36, false, .bin .leq, [.t 35, .c (.int .i64 8)]⟩,
    ⟨none, some 2, true, .mv, [.t 36]⟩])
  .ret)))))

/-- licit/licitref17.touched -/
def Ks.licitref17_touched : List Nat := [0, 1, 2, 6, 7, 8, 9]
def Rs.licitref17_touched : List RV := [.tmp 6, .tmp 7]
def Dl.licitref17_touched : List (List Nat) := [[9], []]
def Mc.licitref17_touched_L1 : MC := (.seq (.seq (.reg [
    ⟨none, some 21, false, .mv, [.t 9]⟩,
    ⟨none, some 22, false, .mv, [.t 0]⟩,
    ⟨none, some 23, false, .mv, [.t 8]⟩,
    ⟨none, some 24, false, .iadr 6, [.t 22, .t 23]⟩,
    ⟨none, some 25, false, .fadr 3, [.t 24]⟩,
    ⟨none, some 26, false, .ld 1 false, [.t 25]⟩,
    ⟨none, some 27, false, .len 1, [.t 26]⟩,
    ⟨none, some 28, false, .bin .lss, [.t 21, .t 27]⟩])
  (.ite (.t 28)
    .skip
    (.exit 2)))
  (.seq (.blk 3 (.seq (.reg [
    ⟨none, some 31, false, .mv, [.t 0]⟩,
    ⟨none, some 32, false, .mv, [.t 8]⟩,
    ⟨none, some 33, false, .iadr 6, [.t 31, .t 32]⟩,
    ⟨none, some 34, false, .fadr 3, [.t 33]⟩,
    ⟨none, some 35, false, .ld 1 false, [.t 34]⟩,
    ⟨none, some 36, false, .mv, [.t 9]⟩,
    ⟨none, some 37, false, .iadr 2, [.t 35, .t 36]⟩,
    ⟨none, some 38, false, .fadr 0, [.t 37]⟩,
    ⟨none, some 39, false, .ld 1 false, [.t 38]⟩,
    ⟨none, some 40, false, .mv, [.t 2]⟩,
    ⟨none, some 41, false, .bin .eql, [.t 39, .t 40]⟩])
  (.ite (.t 41)
    (.seq (.reg [
      ⟨none, some 42, false, .mv, [.t 0]⟩,
      ⟨none, some 43, false, .mv, [.t 8]⟩,
      ⟨none, some 44, false, .iadr 6, [.t 42, .t 43]⟩,
      ⟨none, some 45, false, .fadr 3, [.t 44]⟩,
      ⟨none, some 46, false, .ld 1 false, [.t 45]⟩,
      ⟨none, some 47, false, .mv, [.t 9]⟩,
      ⟨none, some 48, false, .iadr 2, [.t 46, .t 47]⟩,
      ⟨none, some 49, false, .fadr 1, [.t 48]⟩,
      ⟨none, some 50, false, .ld 1 false, [.t 49]⟩,
      ⟨none, some 6, true, .mv, [.t 50]⟩,
      ⟨none, some 7, true, .mv, [.c (.bool true)]⟩])
    .ret)
    .skip)))
  (.reg [
    ⟨none, some 29, false, .mv, [.t 9]⟩,
    ⟨none, some 30, false, .bin .add, [.t 29, .c (.int .i64 1)]⟩,
    ⟨none, some 9, true, .mv, [.t 30]⟩])))
def Mc.licitref17_touched_L0 : MC := (.seq (.seq (.reg [
    ⟨none, some 10, false, .mv, [.t 8]⟩,
    ⟨none, some 11, false, .mv, [.t 1]⟩,
    ⟨none, some 12, false, .bin .lss, [.t 10, .t 11]⟩,
    ⟨none, some 13, false, .mv, [.t 12]⟩,
    ⟨some (13, true), some 14, false, .mv, [.t 8]⟩,
    ⟨some (13, true), some 15, false, .mv, [.t 0]⟩,
    ⟨some (13, true), some 16, false, .len 1, [.t 15]⟩,
    ⟨some (13, true), some 17, false, .bin .lss, [.t 14, .t 16]⟩,
    ⟨none, some 18, false, .pick, [.t 13, .t 17, .c (.bool false)]⟩])
  (.ite (.t 18)
    .skip
    (.exit 0)))
  (.seq (.blk 1 (.seq (.seq (.reg [
    ⟨none, some 9, true, .mv, [.c (.int .i64 0)]⟩])
  (.blk 2 (.loop [] Mc.licitref17_touched_L1)))
  (.seq (.reg [
    ⟨none, some 51, false, .mv, [.t 0]⟩,
    ⟨none, some 52, false, .mv, [.t 8]⟩,
    ⟨none, some 53, false, .iadr 6, [.t 51, .t 52]⟩,
    ⟨none, some 54, false, .fadr 4, [.t 53]⟩,
    ⟨none, some 55, false, .fadr 0, [.t 54]⟩,
    ⟨none, some 56, false, .ld 1 false, [.t 55]⟩,
    ⟨none, some 57, false, .mv, [.t 2]⟩,
    ⟨none, some 58, false, .bin .eql, [.t 56, .t 57]⟩])
  (.ite (.t 58)
    (.seq (.reg [
      ⟨none, some 59, false, .mv, [.t 0]⟩,
      ⟨none, some 60, false, .mv, [.t 8]⟩,
      ⟨none, some 61, false, .iadr 6, [.t 59, .t 60]⟩,
      ⟨none, some 62, false, .fadr 4, [.t 61]⟩,
      ⟨none, some 63, false, .fadr 1, [.t 62]⟩,
      ⟨none, some 64, false, .ld 1 false, [.t 63]⟩,
      ⟨none, some 6, true, .mv, [.t 64]⟩,
      ⟨none, some 7, true, .mv, [.c (.bool true)]⟩])
    .ret)
    .skip))))
  (.reg [
    ⟨none, some 19, false, .mv, [.t 8]⟩,
    ⟨none, some 20, false, .bin .add, [.t 19, .c (.int .i64 1)]⟩,
    ⟨none, some 8, true, .mv, [.t 20]⟩])))
def Mc.licitref17_touched : MC := (.seq (.reg [
    ⟨none, some 6, true, .mv, [.c (.str [])]⟩,
    ⟨none, some 7, true, .mv, [.c (.bool false)]⟩])
  (.seq (.seq (.reg [
    ⟨none, some 8, true, .mv, [.c (.int .i64 0)]⟩])
  (.blk 0 (.loop [9] Mc.licitref17_touched_L0)))
  (.seq (.reg [
    ⟨none, some 6, true, .mv, [.c (.str [])]⟩,
    ⟨none, some 7, true, .mv, [.c (.bool false)]⟩])
  .ret)))

/-- licit/licitref17.among -/
def Ks.licitref17_among : List Nat := [0, 1, 2, 6, 7]
def Rs.licitref17_among : List RV := [.tmp 6]
def Dl.licitref17_among : List (List Nat) := [[]]
def Mc.licitref17_among_L0 : MC := (.seq (.seq (.reg [
    ⟨none, some 8, false, .mv, [.t 7]⟩,
    ⟨none, some 9, false, .mv, [.t 1]⟩,
    ⟨none, some 10, false, .bin .lss, [.t 8, .t 9]⟩])
  (.ite (.t 10)
    .skip
    (.exit 0)))
  (.seq (.blk 1 (.seq (.reg [
    ⟨none, some 13, false, .mv, [.t 0]⟩,
    ⟨none, some 14, false, .mv, [.t 7]⟩,
    ⟨none, some 15, false, .iadr 2, [.t 13, .t 14]⟩,
    ⟨none, some 16, false, .fadr 0, [.t 15]⟩,
    ⟨none, some 17, false, .ld 1 false, [.t 16]⟩,
    ⟨none, some 18, false, .mv, [.t 2]⟩,
    ⟨none, some 19, false, .bin .eql, [.t 17, .t 18]⟩])
  (.ite (.t 19)
    (.seq (.reg [
      ⟨none, some 20, false, .mv, [.t 7]⟩,
      ⟨none, some 6, true, .mv, [.t 20]⟩])
    .ret)
    .skip)))
  (.reg [
    ⟨none, some 11, false, .mv, [.t 7]⟩,
    ⟨none, some 12, false, .bin .add, [.t 11, .c (.int .i64 1)]⟩,
    ⟨none, some 7, true, .mv, [.t 12]⟩])))
def Mc.licitref17_among : MC := (.seq (.reg [
    ⟨none, some 6, true, .mv, [.c (.int .i64 0)]⟩])
  (.seq (.seq (.reg [
    ⟨none, some 7, true, .mv, [.c (.int .i64 0)]⟩])
  (.blk 0 (.loop [] Mc.licitref17_among_L0)))
  (.seq (.reg [
    ⟨none, some 6, true, .mv, [.c (.int .i64 (-1))]⟩])
  .ret)))

/-- cmp.Less[string] -/
def Ks.cmp_Less_string_ : List Nat := [0, 1, 4]
def Rs.cmp_Less_string_ : List RV := [.tmp 4]
def Dl.cmp_Less_string_ : List (List Nat) := []
def Mc.cmp_Less_string_ : MC := (.seq (.reg [
    ⟨none, some 4, true, .mv, [.c (.bool false)]⟩])
  (.seq (.reg [
    ⟨none, some 5, false, .mv, [.t 0]⟩,
    ⟨none, some 6, false, .call Fn.cmp_isNaN_string_, [.t 5]⟩,
    ⟨none, some 7, false, .mv, [.t 6]⟩,
    ⟨some (7, true), some 8, false, .mv, [.t 1]⟩,
    ⟨some (7, true), some 9, false, .call Fn.cmp_isNaN_string_, [.t 8]⟩,
    ⟨some (7, true), some 10, false, .un .not, [.t 9]⟩,
    ⟨none, some 11, false, .pick, [.t 7, .t 10, .c (.bool false)]⟩,
    ⟨none, some 12, false, .mv, [.t 11]⟩,
    ⟨some (12, false), some 13, false, .mv, [.t 0]⟩,
    ⟨some (12, false), some 14, false, .mv, [.t 1]⟩,
    ⟨some (12, false), some 15, false, .bin .lss, [.t 13, .t 14]⟩,
    ⟨none, some 16, false, .pick, [.t 12, .c (.bool true), .t 15]⟩,
    ⟨none, some 4, true, .mv, [.t 16]⟩])
  .ret))

/-- slices.ContainsFunc[[]string,string] -/
def Ks.slices_ContainsFunc___string_string_ : List Nat := [0, 1, 4]
def Rs.slices_ContainsFunc___string_string_ : List RV := [.tmp 4]
def Dl.slices_ContainsFunc___string_string_ : List (List Nat) := []
def Mc.slices_ContainsFunc___string_string_ : MC := (.seq (.reg [
    ⟨none, some 4, true, .mv, [.c (.bool false)]⟩])
  (.seq (.reg [
    ⟨none, some 5, false, .mv, [.t 0]⟩,
    ⟨none, some 6, false, .mv, [.t 1]⟩,
    ⟨none, some 7, false, .call Fn.slices_IndexFunc___string_string_, [.t 5, .t 6]⟩,
    ⟨none, some 8, false, .bin .geq, [.t 7, .c (.int .i64 0)]⟩,
    ⟨none, some 4, true, .mv, [.t 8]⟩])
  .ret))

/-- licit/tree.Path$1 -/
def Ks.tree_Path_1 : List Nat := [0, 2]
def Rs.tree_Path_1 : List RV := [.tmp 2]
def Dl.tree_Path_1 : List (List Nat) := []
def Mc.tree_Path_1 : MC := (.seq (.reg [
    ⟨none, some 2, true, .mv, [.c (.bool false)]⟩])
  (.seq (.reg [
    ⟨none, some 3, false, .mv, [.t 0]⟩,
    ⟨none, some 4, false, .call Fn.tree_part, [.t 3]⟩,
    ⟨none, some 5, false, .un .not, [.t 4]⟩,
    ⟨none, some 2, true, .mv, [.t 5]⟩])
  .ret))

/-- licit/tree.part -/
def Ks.tree_part : List Nat := [0, 2]
def Rs.tree_part : List RV := [.tmp 2]
def Dl.tree_part : List (List Nat) := []
def Mc.tree_part : MC := (.seq (.reg [
    ⟨none, some 2, true, .mv, [.c (.bool false)]⟩])
  (.seq (.seq (.reg [
    ⟨none, some 3, false, .mv, [.t 0]⟩,
    ⟨none, some 4, false, .bin .eql, [.t 3, .c (.str [])]⟩,
    ⟨none, some 5, false, .mv, [.t 4]⟩,
    ⟨some (5, false), some 6, false, .mv, [.t 0]⟩,
    ⟨some (5, false), some 7, false, .len 0, [.t 6]⟩,
    ⟨some (5, false), some 8, false, .bin .gtr, [.t 7, .c (.int .i64 32)]⟩,
    ⟨none, some 9, false, .pick, [.t 5, .c (.bool true), .t 8]⟩,
    ⟨none, some 10, false, .mv, [.t 9]⟩,
    ⟨some (10, false), some 11, false, .mv, [.t 0]⟩,
    ⟨some (10, false), some 12, false, .istr, [.t 11, .c (.int .i64 0)]⟩,
    ⟨some (10, false), some 13, false, .bin .eql, [.t 12, .c (.int .u8 46)]⟩,
    ⟨none, some 14, false, .pick, [.t 10, .c (.bool true), .t 13]⟩,
    ⟨none, some 15, false, .mv, [.t 14]⟩,
    ⟨some (15, false), some 16, false, .mv, [.t 0]⟩,
    ⟨some (15, false), some 17, false, .istr, [.t 16, .c (.int .i64 0)]⟩,
    ⟨some (15, false), some 18, false, .bin .eql, [.t 17, .c (.int .u8 45)]⟩,
    ⟨none, some 19, false, .pick, [.t 15, .c (.bool true), .t 18]⟩])
  (.ite (.t 19)
    (.seq (.reg [
      ⟨none, some 2, true, .mv, [.c (.bool false)]⟩])
    .ret)
    .skip))
  (.seq (.reg [
    ⟨none, some 20, false, .mv, [.t 0]⟩,
    ⟨none, some 21, false, .call Fn.strings_ContainsFunc, [.t 20, .c (.fn Fn.tree_part_1 [])]⟩,
    ⟨none, some 22, false, .un .not, [.t 21]⟩,
    ⟨none, some 2, true, .mv, [.t 22]⟩])
  .ret)))

/-- licit/licitref16.name -/
def Ks.licitref16_name : List Nat := [0, 2, 3, 4]
def Rs.licitref16_name : List RV := [.tmp 2]
def Dl.licitref16_name : List (List Nat) := [[4]]
def Mc.licitref16_name_L0 : MC := (.seq (.seq (.reg [
    ⟨none, some 23, false, .mv, [.t 3]⟩,
    ⟨none, some 24, false, .mv, [.t 0]⟩,
    ⟨none, some 25, false, .len 0, [.t 24]⟩,
    ⟨none, some 26, false, .bin .lss, [.t 23, .t 25]⟩])
  (.ite (.t 26)
    .skip
    (.exit 0)))
  (.seq (.blk 1 (.seq (.reg [
    ⟨none, some 29, false, .mv, [.t 0]⟩,
    ⟨none, some 30, false, .mv, [.t 3]⟩,
    ⟨none, some 31, false, .istr, [.t 29, .t 30]⟩,
    ⟨none, some 4, true, .mv, [.t 31]⟩])
  (.seq (.reg [
    ⟨none, some 32, false, .mv, [.t 4]⟩,
    ⟨none, some 33, false, .bin .lss, [.t 32, .c (.int .u8 97)]⟩,
    ⟨none, some 34, false, .mv, [.t 33]⟩,
    ⟨some (34, false), some 35, false, .mv, [.t 4]⟩,
    ⟨some (34, false), some 36, false, .bin .gtr, [.t 35, .c (.int .u8 122)]⟩,
    ⟨none, some 37, false, .pick, [.t 34, .c (.bool true), .t 36]⟩,
    ⟨none, some 38, false, .mv, [.t 37]⟩,
    ⟨some (38, true), some 39, false, .mv, [.t 4]⟩,
    ⟨some (38, true), some 40, false, .bin .lss, [.t 39, .c (.int .u8 48)]⟩,
    ⟨some (38, true), some 41, false, .mv, [.t 40]⟩,
    ⟨some (41, false), some 42, false, .mv, [.t 4]⟩,
    ⟨some (41, false), some 43, false, .bin .gtr, [.t 42, .c (.int .u8 57)]⟩,
    ⟨some (38, true), some 44, false, .pick, [.t 41, .c (.bool true), .t 43]⟩,
    ⟨none, some 45, false, .pick, [.t 38, .t 44, .c (.bool false)]⟩,
    ⟨none, some 46, false, .mv, [.t 45]⟩,
    ⟨some (46, true), some 47, false, .mv, [.t 4]⟩,
    ⟨some (46, true), some 48, false, .bin .neq, [.t 47, .c (.int .u8 46)]⟩,
    ⟨none, some 49, false, .pick, [.t 46, .t 48, .c (.bool false)]⟩,
    ⟨none, some 50, false, .mv, [.t 49]⟩,
    ⟨some (50, true), some 51, false, .mv, [.t 4]⟩,
    ⟨some (50, true), some 52, false, .bin .neq, [.t 51, .c (.int .u8 95)]⟩,
    ⟨none, some 53, false, .pick, [.t 50, .t 52, .c (.bool false)]⟩,
    ⟨none, some 54, false, .mv, [.t 53]⟩,
    ⟨some (54, true), some 55, false, .mv, [.t 4]⟩,
    ⟨some (54, true), some 56, false, .bin .neq, [.t 55, .c (.int .u8 45)]⟩,
    ⟨none, some 57, false, .pick, [.t 54, .t 56, .c (.bool false)]⟩])
  (.ite (.t 57)
    (.seq (.reg [
      ⟨none, some 2, true, .mv, [.c (.bool false)]⟩])
    .ret)
    .skip))))
  (.reg [
    ⟨none, some 27, false, .mv, [.t 3]⟩,
    ⟨none, some 28, false, .bin .add, [.t 27, .c (.int .i64 1)]⟩,
    ⟨none, some 3, true, .mv, [.t 28]⟩])))
def Mc.licitref16_name : MC := (.seq (.reg [
    ⟨none, some 2, true, .mv, [.c (.bool false)]⟩])
  (.seq (.seq (.reg [
    ⟨none, some 5, false, .mv, [.t 0]⟩,
    ⟨none, some 6, false, .len 0, [.t 5]⟩,
    ⟨none, some 7, false, .bin .lss, [.t 6, .c (.int .i64 1)]⟩,
    ⟨none, some 8, false, .mv, [.t 7]⟩,
    ⟨some (8, false), some 9, false, .mv, [.t 0]⟩,
    ⟨some (8, false), some 10, false, .len 0, [.t 9]⟩,
    ⟨some (8, false), some 11, false, .bin .gtr, [.t 10, .c (.int .i64 32)]⟩,
    ⟨none, some 12, false, .pick, [.t 8, .c (.bool true), .t 11]⟩,
    ⟨none, some 13, false, .mv, [.t 12]⟩,
    ⟨some (13, false), some 14, false, .mv, [.t 0]⟩,
    ⟨some (13, false), some 15, false, .istr, [.t 14, .c (.int .i64 0)]⟩,
    ⟨some (13, false), some 16, false, .bin .eql, [.t 15, .c (.int .u8 46)]⟩,
    ⟨none, some 17, false, .pick, [.t 13, .c (.bool true), .t 16]⟩,
    ⟨none, some 18, false, .mv, [.t 17]⟩,
    ⟨some (18, false), some 19, false, .mv, [.t 0]⟩,
    ⟨some (18, false), some 20, false, .istr, [.t 19, .c (.int .i64 0)]⟩,
    ⟨some (18, false), some 21, false, .bin .eql, [.t 20, .c (.int .u8 45)]⟩,
    ⟨none, some 22, false, .pick, [.t 18, .c (.bool true), .t 21]⟩])
  (.ite (.t 22)
    (.seq (.reg [
      ⟨none, some 2, true, .mv, [.c (.bool false)]⟩])
    .ret)
    .skip))
  (.seq (.seq (.reg [
    ⟨none, some 3, true, .mv, [.c (.int .i64 0)]⟩])
  (.blk 0 (.loop [4] Mc.licitref16_name_L0)))
  (.seq (.reg [
    ⟨none, some 2, true, .mv, [.c (.bool true)]⟩])
  .ret))))

/-- cmp.isNaN[string] -/
def Ks.cmp_isNaN_string_ : List Nat := [0, 2]
def Rs.cmp_isNaN_string_ : List RV := [.tmp 2]
def Dl.cmp_isNaN_string_ : List (List Nat) := []
def Mc.cmp_isNaN_string_ : MC := (.seq (.reg [
    ⟨none, some 2, true, .mv, [.c (.bool false)]⟩])
  (.seq (.reg [
    ⟨none, some 3, false, .mv, [.t 0]⟩,
    ⟨none, some 4, false, .mv, [.t 0]⟩,
    ⟨none, some 5, false, .bin .neq, [.t 3, .t 4]⟩,
    ⟨none, some 2, true, .mv, [.t 5]⟩])
  .ret))

/-- slices.IndexFunc[[]string,string] -/
def Ks.slices_IndexFunc___string_string_ : List Nat := [0, 1, 4, 5, 7, 8]
def Rs.slices_IndexFunc___string_string_ : List RV := [.tmp 4]
def Dl.slices_IndexFunc___string_string_ : List (List Nat) := [[5]]
def Mc.slices_IndexFunc___string_string__L0 : MC := (.seq (.reg [
    ⟨none, some 9, false, .bin .lss, [.t 8, .t 7]⟩])
  (.seq (.ite (.t 9)
    .skip
    (.exit 0))
  (.seq (.blk 1 (.seq (.reg [
    ⟨none, some 10, false, .mv, [.t 8]⟩,
    ⟨none, some 5, true, .mv, [.t 10]⟩])
  (.seq (.reg [
    ⟨none, some 11, false, .mv, [.t 1]⟩,
    ⟨none, some 12, false, .mv, [.t 0]⟩,
    ⟨none, some 13, false, .mv, [.t 5]⟩,
    ⟨none, some 14, false, .iadr 1, [.t 12, .t 13]⟩,
    ⟨none, some 15, false, .ld 1 false, [.t 14]⟩,
    ⟨none, some 16, false, .callv, [.t 11, .t 15]⟩])
  (.ite (.t 16)
    (.seq (.reg [
      ⟨none, some 17, false, .mv, [.t 5]⟩,
      ⟨none, some 4, true, .mv, [.t 17]⟩])
    .ret)
    .skip))))
  (.reg [
    ⟨none, some 18, false, .bin .add, [.t 8, .c (.int .i64 1)]⟩,
    ⟨none, some 8, true, .mv, [.t 18]⟩]))))
def Mc.slices_IndexFunc___string_string_ : MC := (.seq (.reg [
    ⟨none, some 4, true, .mv, [.c (.int .i64 0)]⟩])
  (.seq (.seq (.reg [
    ⟨none, some 6, false, .mv, [.t 0]⟩,
    ⟨none, some 7, true, .len 1, [.t 6]⟩,
    ⟨none, some 8, true, .mv, [.c (.int .i64 0)]⟩])
  (.blk 0 (.loop [5] Mc.slices_IndexFunc___string_string__L0)))
  (.seq (.reg [
    ⟨none, some 4, true, .mv, [.c (.int .i64 (-1))]⟩])
  .ret)))

/-- strings.ContainsFunc -/
def Ks.strings_ContainsFunc : List Nat := [0, 1, 4]
def Rs.strings_ContainsFunc : List RV := [.tmp 4]
def Dl.strings_ContainsFunc : List (List Nat) := []
def Mc.strings_ContainsFunc : MC := (.seq (.reg [
    ⟨none, some 4, true, .mv, [.c (.bool false)]⟩])
  (.seq (.reg [
    ⟨none, some 5, false, .mv, [.t 0]⟩,
    ⟨none, some 6, false, .mv, [.t 1]⟩,
    ⟨none, some 7, false, .call Fn.strings_IndexFunc, [.t 5, .t 6]⟩,
    ⟨none, some 8, false, .bin .geq, [.t 7, .c (.int .i64 0)]⟩,
    ⟨none, some 4, true, .mv, [.t 8]⟩])
  .ret))

/-- licit/tree.part$1 -/
def Ks.tree_part_1 : List Nat := [0, 2]
def Rs.tree_part_1 : List RV := [.tmp 2]
def Dl.tree_part_1 : List (List Nat) := []
def Mc.tree_part_1 : MC := (.seq (.reg [
    ⟨none, some 2, true, .mv, [.c (.bool false)]⟩])
  (.seq (.reg [
    ⟨none, some 3, false, .mv, [.t 0]⟩,
    ⟨none, some 4, false, .bin .geq, [.t 3, .c (.int .i32 97)]⟩,
    ⟨none, some 5, false, .mv, [.t 4]⟩,
    ⟨some (5, true), some 6, false, .mv, [.t 0]⟩,
    ⟨some (5, true), some 7, false, .bin .leq, [.t 6, .c (.int .i32 122)]⟩,
    ⟨none, some 8, false, .pick, [.t 5, .t 7, .c (.bool false)]⟩,
    ⟨none, some 9, false, .mv, [.t 8]⟩,
    ⟨some (9, false), some 10, false, .mv, [.t 0]⟩,
    ⟨some (9, false), some 11, false, .bin .geq, [.t 10, .c (.int .i32 48)]⟩,
    ⟨some (9, false), some 12, false, .mv, [.t 11]⟩,
    ⟨some (12, true), some 13, false, .mv, [.t 0]⟩,
    ⟨some (12, true), some 14, false, .bin .leq, [.t 13, .c (.int .i32 57)]⟩,
    ⟨some (9, false), some 15, false, .pick, [.t 12, .t 14, .c (.bool false)]⟩,
    ⟨none, some 16, false, .pick, [.t 9, .c (.bool true), .t 15]⟩,
    ⟨none, some 17, false, .mv, [.t 16]⟩,
    ⟨some (17, false), some 18, false, .mv, [.t 0]⟩,
    ⟨some (17, false), some 19, false, .bin .eql, [.t 18, .c (.int .i32 46)]⟩,
    ⟨none, some 20, false, .pick, [.t 17, .c (.bool true), .t 19]⟩,
    ⟨none, some 21, false, .mv, [.t 20]⟩,
    ⟨some (21, false), some 22, false, .mv, [.t 0]⟩,
    ⟨some (21, false), some 23, false, .bin .eql, [.t 22, .c (.int .i32 95)]⟩,
    ⟨none, some 24, false, .pick, [.t 21, .c (.bool true), .t 23]⟩,
    ⟨none, some 25, false, .mv, [.t 24]⟩,
    ⟨some (25, false), some 26, false, .mv, [.t 0]⟩,
    ⟨some (25, false), some 27, false, .bin .eql, [.t 26, .c (.int .i32 45)]⟩,
    ⟨none, some 28, false, .pick, [.t 25, .c (.bool true), .t 27]⟩,
    ⟨none, some 29, false, .un .not, [.t 28]⟩,
    ⟨none, some 2, true, .mv, [.t 29]⟩])
  .ret))

/-- strings.IndexFunc -/
def Ks.strings_IndexFunc : List Nat := [0, 1, 4]
def Rs.strings_IndexFunc : List RV := [.tmp 4]
def Dl.strings_IndexFunc : List (List Nat) := []
def Mc.strings_IndexFunc : MC := (.seq (.reg [
    ⟨none, some 4, true, .mv, [.c (.int .i64 0)]⟩])
  (.seq (.reg [
    ⟨none, some 5, false, .mv, [.t 0]⟩,
    ⟨none, some 6, false, .mv, [.t 1]⟩,
    ⟨none, some 7, false, .call Fn.strings_indexFunc, [.t 5, .t 6, .c (.bool true)]⟩,
    ⟨none, some 4, true, .mv, [.t 7]⟩])
  .ret))

/-- strings.indexFunc -/
def Ks.strings_indexFunc : List Nat := [0, 1, 2, 6, 7, 8, 10, 11]
def Rs.strings_indexFunc : List RV := [.tmp 6]
def Dl.strings_indexFunc : List (List Nat) := [[7, 8, 11]]
def Mc.strings_indexFunc_L0 : MC := (.seq (.reg [
    ⟨none, some 11, true, .nxt, [.t 10]⟩,
    ⟨none, some 12, false, .ext 0, [.t 11]⟩])
  (.seq (.ite (.t 12)
    .skip
    (.exit 0))
  (.blk 1 (.seq (.reg [
    ⟨none, some 13, false, .ext 1, [.t 11]⟩,
    ⟨none, some 14, false, .ext 2, [.t 11]⟩,
    ⟨none, some 7, true, .mv, [.t 13]⟩,
    ⟨none, some 8, true, .mv, [.t 14]⟩])
  (.seq (.reg [
    ⟨none, some 15, false, .mv, [.t 1]⟩,
    ⟨none, some 16, false, .mv, [.t 8]⟩,
    ⟨none, some 17, false, .callv, [.t 15, .t 16]⟩,
    ⟨none, some 18, false, .mv, [.t 2]⟩,
    ⟨none, some 19, false, .eqB false, [.t 17, .t 18]⟩])
  (.ite (.t 19)
    (.seq (.reg [
      ⟨none, some 20, false, .mv, [.t 7]⟩,
      ⟨none, some 6, true, .mv, [.t 20]⟩])
    .ret)
    .skip))))))
def Mc.strings_indexFunc : MC := (.seq (.reg [
    ⟨none, some 6, true, .mv, [.c (.int .i64 0)]⟩])
  (.seq (.seq (.reg [
    ⟨none, some 9, false, .mv, [.t 0]⟩,
    ⟨none, some 10, true, .rng, [.t 9]⟩])
  (.blk 0 (.loop [7, 8, 11] Mc.strings_indexFunc_L0)))
  (.seq (.reg [
    ⟨none, some 6, true, .mv, [.c (.int .i64 (-1))]⟩])
  .ret)))

/-- licit/licitlaw17.RecordTexts -/
def Ks.licitlaw17_RecordTexts : List Nat := [0, 1, 4, 5, 6, 7, 8, 9, 10, 11, 12, 13, 14]
def Rs.licitlaw17_RecordTexts : List RV := [.tmp 4]
def Dl.licitlaw17_RecordTexts : List (List Nat) := []
def Mc.licitlaw17_RecordTexts : MC := (.seq (.reg [
    ⟨none, some 4, true, .mv, [.c (.bool false)]⟩])
  (.seq (.seq (.reg [
    ⟨none, some 15, false, .call Fn.licitlaw17_awake, []⟩,
    ⟨none, some 16, false, .un .not, [.t 15]⟩])
  (.ite (.t 16)
    (.seq (.reg [
      ⟨none, some 4, true, .mv, [.c (.bool false)]⟩])
    .ret)
    .skip))
  (.seq (.seq (.reg [
    ⟨none, some 17, false, .mv, [.t 0]⟩,
    ⟨none, some 18, false, .call Fn.licitref17_Few, [.t 17]⟩,
    ⟨none, some 19, false, .un .not, [.t 18]⟩,
    ⟨none, some 20, false, .mv, [.t 19]⟩,
    ⟨some (20, false), some 21, false, .mv, [.t 1]⟩,
    ⟨some (20, false), some 22, false, .len 0, [.t 21]⟩,
    ⟨some (20, false), some 23, false, .bin .gtr, [.t 22, .c (.int .i64 3000)]⟩,
    ⟨none, some 24, false, .pick, [.t 20, .c (.bool true), .t 23]⟩])
  (.ite (.t 24)
    (.seq (.reg [
      ⟨none, some 4, true, .mv, [.c (.bool true)]⟩])
    .ret)
    .skip))
  (.seq (.reg [
    ⟨none, some 26, false, .mv, [.t 0]⟩,
    ⟨none, some 27, false, .call Fn.record_Print, [.t 26]⟩,
    ⟨none, some 25, false, .mv, [.t 27]⟩,
    ⟨none, some 28, false, .ext 0, [.t 25]⟩,
    ⟨none, some 29, false, .ext 1, [.t 25]⟩,
    ⟨none, some 5, true, .mv, [.t 28]⟩,
    ⟨none, some 6, true, .mv, [.t 29]⟩])
  (.seq (.reg [
    ⟨none, some 31, false, .mv, [.t 0]⟩,
    ⟨none, some 32, false, .call Fn.licitref17_Print, [.t 31]⟩,
    ⟨none, some 30, false, .mv, [.t 32]⟩,
    ⟨none, some 33, false, .ext 0, [.t 30]⟩,
    ⟨none, some 34, false, .ext 1, [.t 30]⟩,
    ⟨none, some 7, true, .mv, [.t 33]⟩,
    ⟨none, some 8, true, .mv, [.t 34]⟩])
  (.seq (.reg [
    ⟨none, some 36, false, .mv, [.t 1]⟩,
    ⟨none, some 37, false, .call Fn.record_Parse, [.t 36]⟩,
    ⟨none, some 35, false, .mv, [.t 37]⟩,
    ⟨none, some 38, false, .ext 0, [.t 35]⟩,
    ⟨none, some 39, false, .ext 1, [.t 35]⟩,
    ⟨none, some 40, false, .ext 2, [.t 35]⟩,
    ⟨none, some 9, true, .mv, [.t 38]⟩,
    ⟨none, some 10, true, .mv, [.t 39]⟩,
    ⟨none, some 11, true, .mv, [.t 40]⟩])
  (.seq (.reg [
    ⟨none, some 42, false, .mv, [.t 1]⟩,
    ⟨none, some 43, false, .call Fn.licitref17_Parse, [.t 42]⟩,
    ⟨none, some 41, false, .mv, [.t 43]⟩,
    ⟨none, some 44, false, .ext 0, [.t 41]⟩,
    ⟨none, some 45, false, .ext 1, [.t 41]⟩,
    ⟨none, some 46, false, .ext 2, [.t 41]⟩,
    ⟨none, some 12, true, .mv, [.t 44]⟩,
    ⟨none, some 13, true, .mv, [.t 45]⟩,
    ⟨none, some 14, true, .mv, [.t 46]⟩])
  (.seq (.reg [
    ⟨none, some 47, false, .mv, [.t 5]⟩,
    ⟨none, some 48, false, .mv, [.t 7]⟩,
    ⟨none, some 49, false, .bin .eql, [.t 47, .t 48]⟩,
    ⟨none, some 50, false, .mv, [.t 49]⟩,
    ⟨some (50, true), some 51, false, .mv, [.t 6]⟩,
    ⟨some (50, true), some 52, false, .mv, [.t 8]⟩,
    ⟨some (50, true), some 53, false, .bin .eql, [.t 51, .t 52]⟩,
    ⟨none, some 54, false, .pick, [.t 50, .t 53, .c (.bool false)]⟩,
    ⟨none, some 55, false, .mv, [.t 54]⟩,
    ⟨some (55, true), some 56, false, .mv, [.t 9]⟩,
    ⟨some (55, true), some 57, false, .mv, [.t 12]⟩,
    ⟨some (55, true), some 58, false, .call Fn.licitlaw17_same, [.t 56, .t 57]⟩,
    ⟨none, some 59, false, .pick, [.t 55, .t 58, .c (.bool false)]⟩,
    ⟨none, some 60, false, .mv, [.t 59]⟩,
    ⟨some (60, true), some 61, false, .mv, [.t 10]⟩,
    ⟨some (60, true), some 62, false, .mv, [.t 13]⟩,
    ⟨some (60, true), some 63, false, .bin .eql, [.t 61, .t 62]⟩,
    ⟨none, some 64, false, .pick, [.t 60, .t 63, .c (.bool false)]⟩,
    ⟨none, some 65, false, .mv, [.t 64]⟩,
    ⟨some (65, true), some 66, false, .mv, [.t 11]⟩,
    ⟨some (65, true), some 67, false, .mv, [.t 14]⟩,
    ⟨some (65, true), some 68, false, .bin .eql, [.t 66, .t 67]⟩,
    ⟨none, some 69, false, .pick, [.t 65, .t 68, .c (.bool false)]⟩,
    ⟨none, some 4, true, .mv, [.t 69]⟩])
  .ret))))))))

/-- licit/licitlaw17.RecordBack -/
def Ks.licitlaw17_RecordBack : List Nat := [0, 1, 4, 5, 6, 7, 8, 9, 10, 11, 12, 13, 14]
def Rs.licitlaw17_RecordBack : List RV := [.tmp 4]
def Dl.licitlaw17_RecordBack : List (List Nat) := []
def Mc.licitlaw17_RecordBack : MC := (.seq (.reg [
    ⟨none, some 4, true, .mv, [.c (.bool false)]⟩])
  (.seq (.seq (.reg [
    ⟨none, some 15, false, .call Fn.licitlaw17_awake, []⟩,
    ⟨none, some 16, false, .un .not, [.t 15]⟩])
  (.ite (.t 16)
    (.seq (.reg [
      ⟨none, some 4, true, .mv, [.c (.bool false)]⟩])
    .ret)
    .skip))
  (.seq (.seq (.reg [
    ⟨none, some 17, false, .mv, [.t 0]⟩,
    ⟨none, some 18, false, .call Fn.licitref17_Few, [.t 17]⟩,
    ⟨none, some 19, false, .un .not, [.t 18]⟩,
    ⟨none, some 20, false, .mv, [.t 19]⟩,
    ⟨some (20, false), some 21, false, .mv, [.t 1]⟩,
    ⟨some (20, false), some 22, false, .len 0, [.t 21]⟩,
    ⟨some (20, false), some 23, false, .bin .gtr, [.t 22, .c (.int .i64 3000)]⟩,
    ⟨none, some 24, false, .pick, [.t 20, .c (.bool true), .t 23]⟩])
  (.ite (.t 24)
    (.seq (.reg [
      ⟨none, some 4, true, .mv, [.c (.bool true)]⟩])
    .ret)
    .skip))
  (.seq (.reg [
    ⟨none, some 26, false, .mv, [.t 0]⟩,
    ⟨none, some 27, false, .call Fn.record_Print, [.t 26]⟩,
    ⟨none, some 25, false, .mv, [.t 27]⟩,
    ⟨none, some 28, false, .ext 0, [.t 25]⟩,
    ⟨none, some 29, false, .ext 1, [.t 25]⟩,
    ⟨none, some 5, true, .mv, [.t 28]⟩,
    ⟨none, some 6, true, .mv, [.t 29]⟩])
  (.seq (.seq (.reg [
    ⟨none, some 30, false, .mv, [.t 6]⟩,
    ⟨none, some 31, false, .bin .eql, [.t 30, .c (.int .i64 0)]⟩,
    ⟨none, some 32, false, .mv, [.t 0]⟩,
    ⟨none, some 33, false, .call Fn.record_Check, [.t 32]⟩,
    ⟨none, some 34, false, .bin .eql, [.t 33, .c (.int .i64 0)]⟩,
    ⟨none, some 35, false, .eqB true, [.t 31, .t 34]⟩,
    ⟨none, some 36, false, .mv, [.t 35]⟩,
    ⟨some (36, false), some 37, false, .mv, [.t 6]⟩,
    ⟨some (36, false), some 38, false, .bin .neq, [.t 37, .c (.int .i64 0)]⟩,
    ⟨some (36, false), some 39, false, .mv, [.t 38]⟩,
    ⟨some (39, true), some 40, false, .mv, [.t 6]⟩,
    ⟨some (39, true), some 41, false, .bin .neq, [.t 40, .c (.int .i64 1)]⟩,
    ⟨some (39, true), some 42, false, .mv, [.t 41]⟩,
    ⟨some (42, false), some 43, false, .mv, [.t 5]⟩,
    ⟨some (42, false), some 44, false, .bin .neq, [.t 43, .c (.str [])]⟩,
    ⟨some (39, true), some 45, false, .pick, [.t 42, .c (.bool true), .t 44]⟩,
    ⟨some (36, false), some 46, false, .pick, [.t 39, .t 45, .c (.bool false)]⟩,
    ⟨none, some 47, false, .pick, [.t 36, .c (.bool true), .t 46]⟩])
  (.ite (.t 47)
    (.seq (.reg [
      ⟨none, some 4, true, .mv, [.c (.bool false)]⟩])
    .ret)
    .skip))
  (.seq (.seq (.reg [
    ⟨none, some 48, false, .mv, [.t 6]⟩,
    ⟨none, some 49, false, .bin .eql, [.t 48, .c (.int .i64 0)]⟩])
  (.ite (.t 49)
    (.seq (.reg [
      ⟨none, some 51, false, .mv, [.t 5]⟩,
      ⟨none, some 52, false, .call Fn.record_Parse, [.t 51]⟩,
      ⟨none, some 50, false, .mv, [.t 52]⟩,
      ⟨none, some 53, false, .ext 0, [.t 50]⟩,
      ⟨none, some 54, false, .ext 1, [.t 50]⟩,
      ⟨none, some 55, false, .ext 2, [.t 50]⟩,
      ⟨none, some 7, true, .mv, [.t 53]⟩,
      ⟨none, some 8, true, .mv, [.t 54]⟩,
      ⟨none, some 9, true, .mv, [.t 55]⟩])
    (.seq (.reg [
      ⟨none, some 56, false, .mv, [.t 9]⟩,
      ⟨none, some 57, false, .bin .neq, [.t 56, .c (.int .i64 0)]⟩,
      ⟨none, some 58, false, .mv, [.t 57]⟩,
      ⟨some (58, false), some 59, false, .mv, [.t 8]⟩,
      ⟨some (58, false), some 60, false, .bin .neq, [.t 59, .c (.int .i64 (-1))]⟩,
      ⟨none, some 61, false, .pick, [.t 58, .c (.bool true), .t 60]⟩,
      ⟨none, some 62, false, .mv, [.t 61]⟩,
      ⟨some (62, false), some 63, false, .mv, [.t 7]⟩,
      ⟨some (62, false), some 64, false, .mv, [.t 0]⟩,
      ⟨some (62, false), some 65, false, .call Fn.record_Diverge, [.t 63, .t 64]⟩,
      ⟨some (62, false), some 66, false, .bin .neq, [.t 65, .c (.int .i64 (-1))]⟩,
      ⟨none, some 67, false, .pick, [.t 62, .c (.bool true), .t 66]⟩])
    (.ite (.t 67)
      (.seq (.reg [
        ⟨none, some 4, true, .mv, [.c (.bool false)]⟩])
      .ret)
      .skip)))
    .skip))
  (.seq (.reg [
    ⟨none, some 69, false, .mv, [.t 1]⟩,
    ⟨none, some 70, false, .call Fn.record_Parse, [.t 69]⟩,
    ⟨none, some 68, false, .mv, [.t 70]⟩,
    ⟨none, some 71, false, .ext 0, [.t 68]⟩,
    ⟨none, some 72, false, .ext 1, [.t 68]⟩,
    ⟨none, some 73, false, .ext 2, [.t 68]⟩,
    ⟨none, some 10, true, .mv, [.t 71]⟩,
    ⟨none, some 11, true, .mv, [.t 72]⟩,
    ⟨none, some 12, true, .mv, [.t 73]⟩])
  (.seq (.seq (.reg [
    ⟨none, some 74, false, .mv, [.t 12]⟩,
    ⟨none, some 75, false, .bin .neq, [.t 74, .c (.int .i64 0)]⟩])
  (.ite (.t 75)
    (.seq (.reg [
      ⟨none, some 76, false, .mv, [.t 10]⟩,
      ⟨none, some 77, false, .len 1, [.t 76]⟩,
      ⟨none, some 78, false, .bin .eql, [.t 77, .c (.int .i64 0)]⟩,
      ⟨none, some 79, false, .mv, [.t 78]⟩,
      ⟨some (79, true), some 80, false, .mv, [.t 11]⟩,
      ⟨some (79, true), some 81, false, .bin .geq, [.t 80, .c (.int .i64 (-1))]⟩,
      ⟨none, some 82, false, .pick, [.t 79, .t 81, .c (.bool false)]⟩,
      ⟨none, some 4, true, .mv, [.t 82]⟩])
    .ret)
    .skip))
  (.seq (.reg [
    ⟨none, some 84, false, .mv, [.t 10]⟩,
    ⟨none, some 85, false, .call Fn.record_Print, [.t 84]⟩,
    ⟨none, some 83, false, .mv, [.t 85]⟩,
    ⟨none, some 86, false, .ext 0, [.t 83]⟩,
    ⟨none, some 87, false, .ext 1, [.t 83]⟩,
    ⟨none, some 13, true, .mv, [.t 86]⟩,
    ⟨none, some 14, true, .mv, [.t 87]⟩])
  (.seq (.reg [
    ⟨none, some 88, false, .mv, [.t 14]⟩,
    ⟨none, some 89, false, .bin .eql, [.t 88, .c (.int .i64 0)]⟩,
    ⟨none, some 90, false, .mv, [.t 89]⟩,
    ⟨some (90, true), some 91, false, .mv, [.t 13]⟩,
    ⟨some (90, true), some 92, false, .mv, [.t 1]⟩,
    ⟨some (90, true), some 93, false, .bin .eql, [.t 91, .t 92]⟩,
    ⟨none, some 94, false, .pick, [.t 90, .t 93, .c (.bool false)]⟩,
    ⟨none, some 95, false, .mv, [.t 94]⟩,
    ⟨some (95, true), some 96, false, .mv, [.t 11]⟩,
    ⟨some (95, true), some 97, false, .bin .eql, [.t 96, .c (.int .i64 (-1))]⟩,
    ⟨none, some 98, false, .pick, [.t 95, .t 97, .c (.bool false)]⟩,
    ⟨none, some 99, false, .mv, [.t 98]⟩,
    ⟨some (99, true), some 100, false, .mv, [.t 10]⟩,
    ⟨some (99, true), some 101, false, .call Fn.record_Check, [.t 100]⟩,
    ⟨some (99, true), some 102, false, .bin .eql, [.t 101, .c (.int .i64 0)]⟩,
    ⟨none, some 103, false, .pick, [.t 99, .t 102, .c (.bool false)]⟩,
    ⟨none, some 4, true, .mv, [.t 103]⟩])
  .ret))))))))))

/-- licit/record.Print -/
def Ks.record_Print : List Nat := [0, 2, 3, 4, 5, 7, 9, 14, 15, 16, 37, 38, 39]
def Rs.record_Print : List RV := [.tmp 2, .tmp 3]
def Dl.record_Print : List (List Nat) := [[7, 9, 37, 38, 39], [9]]
def Ow.record_Print : List Nat := [1000037, 1000039]
def Mc.record_Print_L1 : MC := (.seq (.reg [
    ⟨none, some 40, false, .bin .lss, [.t 39, .t 38]⟩])
  (.seq (.ite (.t 40)
    .skip
    (.exit 2))
  (.seq (.blk 3 (.seq (.reg [
    ⟨none, some 41, false, .iadr 2, [.t 37, .t 39]⟩,
    ⟨none, some 42, false, .ld 2 true, [.t 41]⟩,
    ⟨none, some 9, true, .alloc [.str [], .str []], []⟩,
    ⟨none, none, false, .st 2, [.t 9, .t 42]⟩])
  (.reg [
    ⟨none, some 43, false, .mv, [.t 5]⟩,
    ⟨none, some 44, false, .ld 2 true, [.t 9]⟩,
    ⟨none, some 45, false, .callv, [.t 43, .c (.str [114, 101, 97, 100]), .t 44]⟩])))
  (.reg [
    ⟨none, some 46, false, .bin .add, [.t 39, .c (.int .i64 1)]⟩,
    ⟨none, some 39, true, .mv, [.t 46]⟩]))))
def Mc.record_Print_L0 : MC := (.seq (.reg [
    ⟨none, some 17, false, .bin .lss, [.t 16, .t 15]⟩])
  (.seq (.ite (.t 17)
    .skip
    (.exit 0))
  (.seq (.blk 1 (.seq (.reg [
    ⟨none, some 18, false, .iadr 6, [.t 14, .t 16]⟩,
    ⟨none, some 19, false, .ld 6 true, [.t 18]⟩,
    ⟨none, some 7, true, .alloc [.int .i64 0, .int .i64 0, .int .i64 0, .nils, .str [], .str []], []⟩,
    ⟨none, none, false, .st 6, [.t 7, .t 19]⟩])
  (.seq (.rgd [
    ⟨none, some 20, false, .fadr 0, [.t 7]⟩,
    ⟨none, some 21, false, .ld 1 false, [.t 20]⟩,
    ⟨none, some 22, false, .call Fn.strconv_Itoa, [.t 21]⟩,
    ⟨none, some 23, false, .bin .add, [.c (.str [115, 116, 101, 112, 32]), .t 22]⟩,
    ⟨none, some 24, false, .bin .add, [.t 23, .c (.str [32])]⟩,
    ⟨none, some 25, false, .fadr 1, [.t 7]⟩,
    ⟨none, some 26, false, .ld 1 false, [.t 25]⟩,
    ⟨none, some 27, false, .call Fn.strconv_Itoa, [.t 26]⟩,
    ⟨none, some 28, false, .bin .add, [.t 24, .t 27]⟩,
    ⟨none, some 29, false, .bin .add, [.t 28, .c (.str [32])]⟩,
    ⟨none, some 30, false, .fadr 2, [.t 7]⟩,
    ⟨none, some 31, false, .ld 1 false, [.t 30]⟩,
    ⟨none, some 32, false, .call Fn.strconv_Itoa, [.t 31]⟩,
    ⟨none, some 33, false, .bin .add, [.t 29, .t 32]⟩,
    ⟨none, some 34, false, .bin .add, [.t 33, .c (.str [10])]⟩,
    ⟨none, some 35, false, .callg Fn.__strings_Builder__WriteString, [.t 4, .t 34]⟩])
  (.seq (.seq (.reg [
    ⟨none, some 36, false, .fadr 3, [.t 7]⟩,
    ⟨none, some 37, true, .ld 1 false, [.t 36]⟩,
    ⟨none, some 38, true, .len 1, [.t 37]⟩,
    ⟨none, some 39, true, .mv, [.c (.int .i64 0)]⟩])
  (.blk 2 (.loop [9] Mc.record_Print_L1)))
  (.reg [
    ⟨none, some 47, false, .mv, [.t 5]⟩,
    ⟨none, some 48, false, .fadr 4, [.t 7]⟩,
    ⟨none, some 49, false, .ld 2 true, [.t 48]⟩,
    ⟨none, some 50, false, .callv, [.t 47, .c (.str [119, 114, 105, 116, 101]), .t 49]⟩])))))
  (.reg [
    ⟨none, some 51, false, .bin .add, [.t 16, .c (.int .i64 1)]⟩,
    ⟨none, some 16, true, .mv, [.t 51]⟩]))))
def Mc.record_Print : MC := (.seq (.reg [
    ⟨none, some 2, true, .mv, [.c (.str [])]⟩,
    ⟨none, some 3, true, .mv, [.c (.int .i64 0)]⟩])
  (.seq (.seq (.reg [
    ⟨none, some 10, false, .mv, [.t 0]⟩,
    ⟨none, some 11, false, .call Fn.record_Check, [.t 10]⟩,
    ⟨none, some 12, false, .bin .neq, [.t 11, .c (.int .i64 0)]⟩])
  (.ite (.t 12)
    (.seq (.reg [
      ⟨none, some 2, true, .mv, [.c (.str [])]⟩,
      ⟨none, some 3, true, .mv, [.c (.int .i64 1)]⟩])
    .ret)
    .skip))
  (.seq (.reg [
    ⟨none, some 4, true, .allocB 73 5, []⟩])
  (.seq (.reg [
    ⟨none, some 13, false, .mkfn Fn.record_Print_1, [.t 4]⟩,
    ⟨none, some 5, true, .mv, [.t 13]⟩])
  (.seq (.seq (.reg [
    ⟨none, some 14, true, .mv, [.t 0]⟩,
    ⟨none, some 15, true, .len 1, [.t 14]⟩,
    ⟨none, some 16, true, .mv, [.c (.int .i64 0)]⟩])
  (.blk 0 (.loop [7, 9, 37, 38, 39] Mc.record_Print_L0)))
  (.seq (.reg [
    ⟨none, some 52, false, .callg Fn.__strings_Builder__String, [.t 4]⟩,
    ⟨none, some 2, true, .mv, [.t 52]⟩,
    ⟨none, some 3, true, .mv, [.c (.int .i64 0)]⟩])
  .ret))))))

/-- licit/licitref17.Print -/
def Ks.licitref17_Print : List Nat := [0, 2, 3, 4, 5, 6, 7]
def Rs.licitref17_Print : List RV := [.tmp 2, .tmp 3]
def Dl.licitref17_Print : List (List Nat) := [[6, 7], []]
def Mc.licitref17_Print_L1 : MC := (.seq (.seq (.reg [
    ⟨none, some 38, false, .mv, [.t 7]⟩,
    ⟨none, some 39, false, .fadr 3, [.t 6]⟩,
    ⟨none, some 40, false, .ld 1 false, [.t 39]⟩,
    ⟨none, some 41, false, .len 1, [.t 40]⟩,
    ⟨none, some 42, false, .bin .lss, [.t 38, .t 41]⟩])
  (.ite (.t 42)
    .skip
    (.exit 2)))
  (.seq (.blk 3 (.reg [
    ⟨none, some 45, false, .mv, [.t 4]⟩,
    ⟨none, some 46, false, .fadr 3, [.t 6]⟩,
    ⟨none, some 47, false, .ld 1 false, [.t 46]⟩,
    ⟨none, some 48, false, .mv, [.t 7]⟩,
    ⟨none, some 49, false, .iadr 2, [.t 47, .t 48]⟩,
    ⟨none, some 50, false, .ld 2 true, [.t 49]⟩,
    ⟨none, some 51, false, .call Fn.licitref17_touch, [.c (.str [114, 101, 97, 100]), .t 50]⟩,
    ⟨none, some 52, false, .bin .add, [.t 45, .t 51]⟩,
    ⟨none, some 4, true, .mv, [.t 52]⟩]))
  (.reg [
    ⟨none, some 43, false, .mv, [.t 7]⟩,
    ⟨none, some 44, false, .bin .add, [.t 43, .c (.int .i64 1)]⟩,
    ⟨none, some 7, true, .mv, [.t 44]⟩])))
def Mc.licitref17_Print_L0 : MC := (.seq (.seq (.reg [
    ⟨none, some 11, false, .mv, [.t 5]⟩,
    ⟨none, some 12, false, .mv, [.t 0]⟩,
    ⟨none, some 13, false, .len 1, [.t 12]⟩,
    ⟨none, some 14, false, .bin .lss, [.t 11, .t 13]⟩])
  (.ite (.t 14)
    .skip
    (.exit 0)))
  (.seq (.blk 1 (.seq (.reg [
    ⟨none, some 17, false, .mv, [.t 0]⟩,
    ⟨none, some 18, false, .mv, [.t 5]⟩,
    ⟨none, some 19, false, .iadr 6, [.t 17, .t 18]⟩,
    ⟨none, some 20, false, .ld 6 true, [.t 19]⟩,
    ⟨none, some 6, true, .alloc [.int .i64 0, .int .i64 0, .int .i64 0, .nils, .str [], .str []], []⟩,
    ⟨none, none, false, .st 6, [.t 6, .t 20]⟩])
  (.seq (.rgd [
    ⟨none, some 21, false, .mv, [.t 4]⟩,
    ⟨none, some 22, false, .bin .add, [.t 21, .c (.str [115, 116, 101, 112, 32])]⟩,
    ⟨none, some 23, false, .fadr 0, [.t 6]⟩,
    ⟨none, some 24, false, .ld 1 false, [.t 23]⟩,
    ⟨none, some 25, false, .call Fn.licitref16_Decimal, [.t 24]⟩,
    ⟨none, some 26, false, .bin .add, [.t 22, .t 25]⟩,
    ⟨none, some 27, false, .bin .add, [.t 26, .c (.str [32])]⟩,
    ⟨none, some 28, false, .fadr 1, [.t 6]⟩,
    ⟨none, some 29, false, .ld 1 false, [.t 28]⟩,
    ⟨none, some 30, false, .call Fn.licitref16_Decimal, [.t 29]⟩,
    ⟨none, some 31, false, .bin .add, [.t 27, .t 30]⟩,
    ⟨none, some 32, false, .bin .add, [.t 31, .c (.str [32])]⟩,
    ⟨none, some 33, false, .fadr 2, [.t 6]⟩,
    ⟨none, some 34, false, .ld 1 false, [.t 33]⟩,
    ⟨none, some 35, false, .call Fn.licitref16_Decimal, [.t 34]⟩,
    ⟨none, some 36, false, .bin .add, [.t 32, .t 35]⟩,
    ⟨none, some 37, false, .bin .add, [.t 36, .c (.str [10])]⟩,
    ⟨none, some 4, true, .mv, [.t 37]⟩])
  (.seq (.seq (.reg [
    ⟨none, some 7, true, .mv, [.c (.int .i64 0)]⟩])
  (.blk 2 (.loop [] Mc.licitref17_Print_L1)))
  (.reg [
    ⟨none, some 53, false, .mv, [.t 4]⟩,
    ⟨none, some 54, false, .fadr 4, [.t 6]⟩,
    ⟨none, some 55, false, .ld 2 true, [.t 54]⟩,
    ⟨none, some 56, false, .call Fn.licitref17_touch, [.c (.str [119, 114, 105, 116, 101]), .t 55]⟩,
    ⟨none, some 57, false, .bin .add, [.t 53, .t 56]⟩,
    ⟨none, some 4, true, .mv, [.t 57]⟩])))))
  (.reg [
    ⟨none, some 15, false, .mv, [.t 5]⟩,
    ⟨none, some 16, false, .bin .add, [.t 15, .c (.int .i64 1)]⟩,
    ⟨none, some 5, true, .mv, [.t 16]⟩])))
def Mc.licitref17_Print : MC := (.seq (.reg [
    ⟨none, some 2, true, .mv, [.c (.str [])]⟩,
    ⟨none, some 3, true, .mv, [.c (.int .i64 0)]⟩])
  (.seq (.seq (.reg [
    ⟨none, some 8, false, .mv, [.t 0]⟩,
    ⟨none, some 9, false, .call Fn.licitref17_Check, [.t 8]⟩,
    ⟨none, some 10, false, .bin .neq, [.t 9, .c (.int .i64 0)]⟩])
  (.ite (.t 10)
    (.seq (.reg [
      ⟨none, some 2, true, .mv, [.c (.str [])]⟩,
      ⟨none, some 3, true, .mv, [.c (.int .i64 1)]⟩])
    .ret)
    .skip))
  (.seq (.reg [
    ⟨none, some 4, true, .mv, [.c (.str [])]⟩])
  (.seq (.seq (.reg [
    ⟨none, some 5, true, .mv, [.c (.int .i64 0)]⟩])
  (.blk 0 (.loop [6, 7] Mc.licitref17_Print_L0)))
  (.seq (.reg [
    ⟨none, some 58, false, .mv, [.t 4]⟩,
    ⟨none, some 2, true, .mv, [.t 58]⟩,
    ⟨none, some 3, true, .mv, [.c (.int .i64 0)]⟩])
  .ret)))))

/-- licit/record.Parse -/
def Ks.record_Parse : List Nat := [0, 2, 3, 4, 5, 6, 7, 8, 9, 10, 11, 12, 13, 14, 15, 16]
def Rs.record_Parse : List RV := [.tmp 2, .tmp 3, .tmp 4]
def Dl.record_Parse : List (List Nat) := [[8, 9, 10, 11, 12, 13, 14, 15]]
def Ow.record_Parse : List Nat := [4000000, 4000003, 5000045]
def Mc.record_Parse_L0 : MC := (.seq (.seq (.reg [
    ⟨none, some 17, false, .mv, [.t 0]⟩,
    ⟨none, some 18, false, .bin .neq, [.t 17, .c (.str [])]⟩])
  (.ite (.t 18)
    .skip
    (.exit 0)))
  (.seq (.blk 1 (.seq (.reg [
    ⟨none, some 22, false, .mv, [.t 0]⟩,
    ⟨none, some 23, false, .pre [.settle] (.call Fn.strings_Cut), [.t 22, .c (.str [10])]⟩,
    ⟨none, some 21, false, .mv, [.t 23]⟩,
    ⟨none, some 24, false, .ext 0, [.t 21]⟩,
    ⟨none, some 25, false, .ext 1, [.t 21]⟩,
    ⟨none, some 26, false, .ext 2, [.t 21]⟩,
    ⟨none, some 8, true, .mv, [.t 24]⟩,
    ⟨none, some 9, true, .mv, [.t 25]⟩,
    ⟨none, some 10, true, .mv, [.t 26]⟩])
  (.seq (.seq (.reg [
    ⟨none, some 27, false, .mv, [.t 10]⟩,
    ⟨none, some 28, false, .un .not, [.t 27]⟩])
  (.ite (.t 28)
    (.seq (.reg [
      ⟨none, some 29, false, .mv, [.t 6]⟩,
      ⟨none, some 2, true, .pre [.spare 2] (.newnil 6), []⟩,
      ⟨none, some 3, true, .mv, [.t 29]⟩,
      ⟨none, some 4, true, .mv, [.c (.int .i64 4)]⟩])
    .ret)
    .skip))
  (.seq (.reg [
    ⟨none, some 30, false, .mv, [.t 9]⟩,
    ⟨none, some 0, true, .mv, [.t 30]⟩])
  (.seq (.reg [
    ⟨none, some 31, false, .mv, [.t 8]⟩,
    ⟨none, some 32, false, .pre [.settle] (.call Fn.strings_Split), [.t 31, .c (.str [32])]⟩,
    ⟨none, some 11, true, .mv, [.t 32]⟩])
  (.seq (.seq (.reg [
    ⟨none, some 33, false, .mv, [.t 7]⟩,
    ⟨none, some 34, false, .un .not, [.t 33]⟩])
  (.ite (.t 34)
    (.seq (.reg [
      ⟨none, some 36, false, .mv, [.t 11]⟩,
      ⟨none, some 37, false, .pre [.settle] (.call Fn.record_step), [.t 36]⟩,
      ⟨none, some 35, false, .mv, [.t 37]⟩,
      ⟨none, some 38, false, .ext 0, [.t 35]⟩,
      ⟨none, some 39, false, .ext 1, [.t 35]⟩,
      ⟨none, some 12, true, .alloc [.int .i64 0, .int .i64 0, .int .i64 0, .nils, .str [], .str []], []⟩,
      ⟨none, none, false, .pre [.nest] (.st 6), [.t 12, .t 38]⟩,
      ⟨none, some 13, true, .mv, [.t 39]⟩])
    (.seq (.seq (.reg [
      ⟨none, some 40, false, .mv, [.t 13]⟩,
      ⟨none, some 41, false, .un .not, [.t 40]⟩])
    (.ite (.t 41)
      (.seq (.reg [
        ⟨none, some 42, false, .mv, [.t 6]⟩,
        ⟨none, some 2, true, .pre [.spare 2] (.newnil 6), []⟩,
        ⟨none, some 3, true, .mv, [.t 42]⟩,
        ⟨none, some 4, true, .mv, [.c (.int .i64 4)]⟩])
      .ret)
      .skip))
    (.seq (.reg [
      ⟨none, some 43, false, .mv, [.t 5]⟩,
      ⟨none, some 44, false, .ld 6 true, [.t 12]⟩,
      ⟨none, some 45, false, .bslK 6, [.t 44]⟩,
      ⟨none, some 46, false, .pre [.settle, .slot 0] (.app false 6 80), [.t 43, .t 45]⟩,
      ⟨none, some 5, true, .mv, [.t 46]⟩,
      ⟨none, some 7, true, .mv, [.c (.bool true)]⟩])
    (.exit 1))))
    .skip))
  (.seq (.reg [
    ⟨none, some 48, false, .mv, [.t 11]⟩,
    ⟨none, some 49, false, .pre [.settle] (.call Fn.record_file), [.t 48]⟩,
    ⟨none, some 47, false, .mv, [.t 49]⟩,
    ⟨none, some 50, false, .ext 0, [.t 47]⟩,
    ⟨none, some 51, false, .ext 1, [.t 47]⟩,
    ⟨none, some 14, true, .alloc [.str [], .str []], []⟩,
    ⟨none, none, false, .pre [.nest] (.st 2), [.t 14, .t 50]⟩,
    ⟨none, some 10, true, .mv, [.t 51]⟩])
  (.seq (.reg [
    ⟨none, some 52, false, .mv, [.t 5]⟩,
    ⟨none, some 53, false, .mv, [.t 5]⟩,
    ⟨none, some 54, false, .len 1, [.t 53]⟩,
    ⟨none, some 55, false, .bin .sub, [.t 54, .c (.int .i64 1)]⟩,
    ⟨none, some 56, false, .iadr 6, [.t 52, .t 55]⟩,
    ⟨none, some 15, true, .mv, [.t 56]⟩])
  (.blk 2 (.seq (.reg [
    ⟨none, some 59, false, .mv, [.t 10]⟩,
    ⟨none, some 60, false, .mv, [.t 59]⟩,
    ⟨some (60, true), some 61, false, .mv, [.t 11]⟩,
    ⟨some (60, true), some 62, false, .iadr 1, [.t 61, .c (.int .i64 0)]⟩,
    ⟨some (60, true), some 63, false, .ld 1 false, [.t 62]⟩,
    ⟨some (60, true), some 64, false, .bin .eql, [.t 63, .c (.str [114, 101, 97, 100])]⟩,
    ⟨none, some 65, false, .pick, [.t 60, .t 64, .c (.bool false)]⟩,
    ⟨none, some 58, false, .mv, [.t 65]⟩])
  (.ite (.t 58)
    (.rgd [
      ⟨none, some 66, false, .mv, [.t 15]⟩,
      ⟨none, some 67, false, .mv, [.t 15]⟩,
      ⟨none, some 68, false, .nilck, [.t 67]⟩,
      ⟨none, some 69, false, .fadr 3, [.t 68]⟩,
      ⟨none, some 70, false, .ld 1 false, [.t 69]⟩,
      ⟨none, some 71, false, .ld 2 true, [.t 14]⟩,
      ⟨none, some 72, false, .bsl false 2, [.t 71]⟩,
      ⟨none, some 73, false, .pre [.settle, .slot 0] (.app false 2 32), [.t 70, .t 72]⟩,
      ⟨none, some 74, false, .nilck, [.t 66]⟩,
      ⟨none, some 75, false, .fadr 3, [.t 74]⟩,
      ⟨none, none, false, .pre [.nest] (.st 1), [.t 75, .t 73]⟩])
    (.seq (.reg [
      ⟨none, some 77, false, .mv, [.t 10]⟩,
      ⟨none, some 78, false, .mv, [.t 77]⟩,
      ⟨some (78, true), some 79, false, .mv, [.t 11]⟩,
      ⟨some (78, true), some 80, false, .iadr 1, [.t 79, .c (.int .i64 0)]⟩,
      ⟨some (78, true), some 81, false, .ld 1 false, [.t 80]⟩,
      ⟨some (78, true), some 82, false, .bin .eql, [.t 81, .c (.str [119, 114, 105, 116, 101])]⟩,
      ⟨none, some 83, false, .pick, [.t 78, .t 82, .c (.bool false)]⟩,
      ⟨none, some 84, false, .mv, [.t 83]⟩,
      ⟨some (84, true), some 85, false, .mv, [.t 15]⟩,
      ⟨some (84, true), some 86, false, .nilck, [.t 85]⟩,
      ⟨some (84, true), some 87, false, .fadr 3, [.t 86]⟩,
      ⟨some (84, true), some 88, false, .ld 1 false, [.t 87]⟩,
      ⟨some (84, true), some 89, false, .len 1, [.t 88]⟩,
      ⟨some (84, true), some 90, false, .bin .gtr, [.t 89, .c (.int .i64 0)]⟩,
      ⟨none, some 91, false, .pick, [.t 84, .t 90, .c (.bool false)]⟩,
      ⟨none, some 76, false, .mv, [.t 91]⟩])
    (.ite (.t 76)
      (.reg [
        ⟨none, some 92, false, .mv, [.t 15]⟩,
        ⟨none, some 93, false, .ld 2 true, [.t 14]⟩,
        ⟨none, some 94, false, .nilck, [.t 92]⟩,
        ⟨none, some 95, false, .fadr 4, [.t 94]⟩,
        ⟨none, none, false, .pre [.nest] (.st 2), [.t 95, .t 93]⟩,
        ⟨none, some 7, true, .mv, [.c (.bool false)]⟩])
      (.seq (.reg [
        ⟨none, some 57, false, .mv, [.t 6]⟩,
        ⟨none, some 2, true, .pre [.spare 2] (.newnil 6), []⟩,
        ⟨none, some 3, true, .mv, [.t 57]⟩,
        ⟨none, some 4, true, .mv, [.c (.int .i64 4)]⟩])
      .ret))))))))))))))
  (.reg [
    ⟨none, some 19, false, .mv, [.t 6]⟩,
    ⟨none, some 20, false, .bin .add, [.t 19, .c (.int .i64 1)]⟩,
    ⟨none, some 6, true, .mv, [.t 20]⟩])))
def Mc.record_Parse : MC := (.seq (.reg [
    ⟨none, some 2, true, .pre [.spare 2] (.newnil 6), []⟩,
    ⟨none, some 3, true, .mv, [.c (.int .i64 0)]⟩,
    ⟨none, some 4, true, .mv, [.c (.int .i64 0)]⟩])
  (.seq (.reg [
    ⟨none, some 5, true, .pre [.spare 2] (.newnil 6), []⟩])
  (.seq (.reg [
    ⟨none, some 6, true, .mv, [.c (.int .i64 0)]⟩,
    ⟨none, some 7, true, .mv, [.c (.bool false)]⟩])
  (.seq (.blk 0 (.loop [8, 9, 10, 11, 12, 13, 14, 15] Mc.record_Parse_L0))
  (.seq (.seq (.reg [
    ⟨none, some 96, false, .mv, [.t 7]⟩])
  (.ite (.t 96)
    (.seq (.reg [
      ⟨none, some 97, false, .mv, [.t 6]⟩,
      ⟨none, some 2, true, .pre [.spare 2] (.newnil 6), []⟩,
      ⟨none, some 3, true, .mv, [.t 97]⟩,
      ⟨none, some 4, true, .mv, [.c (.int .i64 13)]⟩])
    .ret)
    .skip))
  (.seq (.seq (.reg [
    ⟨none, some 98, false, .mv, [.t 5]⟩,
    ⟨none, some 99, false, .pre [.settle] (.call Fn.record_Check), [.t 98]⟩,
    ⟨none, some 16, true, .mv, [.t 99]⟩])
  (.seq (.reg [
    ⟨none, some 100, false, .mv, [.t 16]⟩,
    ⟨none, some 101, false, .bin .neq, [.t 100, .c (.int .i64 0)]⟩])
  (.ite (.t 101)
    (.seq (.reg [
      ⟨none, some 102, false, .mv, [.t 16]⟩,
      ⟨none, some 2, true, .pre [.spare 2] (.newnil 6), []⟩,
      ⟨none, some 3, true, .mv, [.c (.int .i64 (-1))]⟩,
      ⟨none, some 4, true, .mv, [.t 102]⟩])
    .ret)
    .skip)))
  (.seq (.reg [
    ⟨none, some 103, false, .mv, [.t 5]⟩,
    ⟨none, some 2, true, .mv, [.t 103]⟩,
    ⟨none, some 3, true, .mv, [.c (.int .i64 (-1))]⟩,
    ⟨none, some 4, true, .mv, [.c (.int .i64 0)]⟩])
  .ret)))))))

/-- licit/licitref17.Parse -/
def Ks.licitref17_Parse : List Nat := [0, 2, 3, 4, 5, 6, 7, 8, 9, 10, 11, 12, 13, 14, 15, 16]
def Rs.licitref17_Parse : List RV := [.tmp 2, .tmp 3, .tmp 4]
def Dl.licitref17_Parse : List (List Nat) := [[11, 12, 13, 14, 15]]
def Ow.licitref17_Parse : List Nat := [4000000, 4000003, 22]
def Mc.licitref17_Parse_L0 : MC := (.seq (.seq (.reg [
    ⟨none, some 23, false, .mv, [.t 10]⟩,
    ⟨none, some 24, false, .mv, [.t 6]⟩,
    ⟨none, some 25, false, .bin .lss, [.t 23, .t 24]⟩])
  (.ite (.t 25)
    .skip
    (.exit 0)))
  (.seq (.blk 1 (.seq (.reg [
    ⟨none, some 28, false, .mv, [.t 5]⟩,
    ⟨none, some 29, false, .mv, [.t 10]⟩,
    ⟨none, some 30, false, .iadr 1, [.t 28, .t 29]⟩,
    ⟨none, some 31, false, .ld 1 false, [.t 30]⟩,
    ⟨none, some 32, false, .pre [.settle] (.call Fn.licitref16_Cut), [.t 31, .c (.int .u8 32)]⟩,
    ⟨none, some 11, true, .mv, [.t 32]⟩])
  (.seq (.seq (.reg [
    ⟨none, some 33, false, .mv, [.t 8]⟩,
    ⟨none, some 34, false, .un .not, [.t 33]⟩])
  (.ite (.t 34)
    (.seq (.reg [
      ⟨none, some 36, false, .mv, [.t 11]⟩,
      ⟨none, some 37, false, .pre [.settle] (.call Fn.licitref17_head), [.t 36]⟩,
      ⟨none, some 35, false, .mv, [.t 37]⟩,
      ⟨none, some 38, false, .ext 0, [.t 35]⟩,
      ⟨none, some 39, false, .ext 1, [.t 35]⟩,
      ⟨none, some 12, true, .alloc [.int .i64 0, .int .i64 0, .int .i64 0, .nils, .str [], .str []], []⟩,
      ⟨none, none, false, .pre [.nest] (.st 6), [.t 12, .t 38]⟩,
      ⟨none, some 13, true, .mv, [.t 39]⟩])
    (.seq (.seq (.reg [
      ⟨none, some 40, false, .mv, [.t 13]⟩,
      ⟨none, some 41, false, .un .not, [.t 40]⟩])
    (.ite (.t 41)
      (.seq (.reg [
        ⟨none, some 42, false, .mv, [.t 10]⟩,
        ⟨none, some 2, true, .pre [.spare 2] (.newnil 6), []⟩,
        ⟨none, some 3, true, .mv, [.t 42]⟩,
        ⟨none, some 4, true, .mv, [.c (.int .i64 4)]⟩])
      .ret)
      .skip))
    (.seq (.reg [
      ⟨none, some 43, false, .ld 6 true, [.t 12]⟩,
      ⟨none, none, false, .pre [.nest] (.st 6), [.t 9, .t 43]⟩,
      ⟨none, some 8, true, .mv, [.c (.bool true)]⟩])
    (.exit 1))))
    .skip))
  (.seq (.reg [
    ⟨none, some 45, false, .mv, [.t 11]⟩,
    ⟨none, some 46, false, .pre [.settle] (.call Fn.licitref17_file), [.t 45]⟩,
    ⟨none, some 44, false, .mv, [.t 46]⟩,
    ⟨none, some 47, false, .ext 0, [.t 44]⟩,
    ⟨none, some 48, false, .ext 1, [.t 44]⟩,
    ⟨none, some 14, true, .alloc [.str [], .str []], []⟩,
    ⟨none, none, false, .pre [.nest] (.st 2), [.t 14, .t 47]⟩,
    ⟨none, some 15, true, .mv, [.t 48]⟩])
  (.seq (.seq (.reg [
    ⟨none, some 49, false, .mv, [.t 15]⟩,
    ⟨none, some 50, false, .un .not, [.t 49]⟩,
    ⟨none, some 51, false, .mv, [.t 50]⟩,
    ⟨some (51, false), some 52, false, .mv, [.t 11]⟩,
    ⟨some (51, false), some 53, false, .iadr 1, [.t 52, .c (.int .i64 0)]⟩,
    ⟨some (51, false), some 54, false, .ld 1 false, [.t 53]⟩,
    ⟨some (51, false), some 55, false, .bin .neq, [.t 54, .c (.str [114, 101, 97, 100])]⟩,
    ⟨some (51, false), some 56, false, .mv, [.t 55]⟩,
    ⟨some (56, true), some 57, false, .mv, [.t 11]⟩,
    ⟨some (56, true), some 58, false, .iadr 1, [.t 57, .c (.int .i64 0)]⟩,
    ⟨some (56, true), some 59, false, .ld 1 false, [.t 58]⟩,
    ⟨some (56, true), some 60, false, .bin .neq, [.t 59, .c (.str [119, 114, 105, 116, 101])]⟩,
    ⟨some (51, false), some 61, false, .pick, [.t 56, .t 60, .c (.bool false)]⟩,
    ⟨none, some 62, false, .pick, [.t 51, .c (.bool true), .t 61]⟩,
    ⟨none, some 63, false, .mv, [.t 62]⟩,
    ⟨some (63, false), some 64, false, .mv, [.t 11]⟩,
    ⟨some (63, false), some 65, false, .iadr 1, [.t 64, .c (.int .i64 0)]⟩,
    ⟨some (63, false), some 66, false, .ld 1 false, [.t 65]⟩,
    ⟨some (63, false), some 67, false, .bin .eql, [.t 66, .c (.str [119, 114, 105, 116, 101])]⟩,
    ⟨some (63, false), some 68, false, .mv, [.t 67]⟩,
    ⟨some (68, true), some 69, false, .fadr 3, [.t 9]⟩,
    ⟨some (68, true), some 70, false, .ld 1 false, [.t 69]⟩,
    ⟨some (68, true), some 71, false, .len 1, [.t 70]⟩,
    ⟨some (68, true), some 72, false, .bin .eql, [.t 71, .c (.int .i64 0)]⟩,
    ⟨some (63, false), some 73, false, .pick, [.t 68, .t 72, .c (.bool false)]⟩,
    ⟨none, some 74, false, .pick, [.t 63, .c (.bool true), .t 73]⟩])
  (.ite (.t 74)
    (.seq (.reg [
      ⟨none, some 75, false, .mv, [.t 10]⟩,
      ⟨none, some 2, true, .pre [.spare 2] (.newnil 6), []⟩,
      ⟨none, some 3, true, .mv, [.t 75]⟩,
      ⟨none, some 4, true, .mv, [.c (.int .i64 4)]⟩])
    .ret)
    .skip))
  (.seq (.seq (.reg [
    ⟨none, some 76, false, .mv, [.t 11]⟩,
    ⟨none, some 77, false, .iadr 1, [.t 76, .c (.int .i64 0)]⟩,
    ⟨none, some 78, false, .ld 1 false, [.t 77]⟩,
    ⟨none, some 79, false, .bin .eql, [.t 78, .c (.str [114, 101, 97, 100])]⟩])
  (.ite (.t 79)
    (.seq (.reg [
      ⟨none, some 80, false, .fadr 3, [.t 9]⟩,
      ⟨none, some 81, false, .ld 1 false, [.t 80]⟩,
      ⟨none, some 82, false, .ld 2 true, [.t 14]⟩,
      ⟨none, some 83, false, .bsl false 2, [.t 82]⟩,
      ⟨none, some 84, false, .pre [.settle, .slot 0] (.app false 2 32), [.t 81, .t 83]⟩,
      ⟨none, some 85, false, .fadr 3, [.t 9]⟩,
      ⟨none, none, false, .pre [.nest] (.st 1), [.t 85, .t 84]⟩])
    (.exit 1))
    .skip))
  (.seq (.reg [
    ⟨none, some 86, false, .ld 2 true, [.t 14]⟩,
    ⟨none, some 87, false, .fadr 4, [.t 9]⟩,
    ⟨none, none, false, .pre [.nest] (.st 2), [.t 87, .t 86]⟩])
  (.seq (.reg [
    ⟨none, some 88, false, .mv, [.t 7]⟩,
    ⟨none, some 89, false, .ld 6 true, [.t 9]⟩,
    ⟨none, some 90, false, .bsl false 6, [.t 89]⟩,
    ⟨none, some 91, false, .pre [.settle, .slot 0] (.app false 6 80), [.t 88, .t 90]⟩,
    ⟨none, some 7, true, .mv, [.t 91]⟩])
  (.reg [
    ⟨none, some 8, true, .mv, [.c (.bool false)]⟩])))))))))
  (.reg [
    ⟨none, some 26, false, .mv, [.t 10]⟩,
    ⟨none, some 27, false, .bin .add, [.t 26, .c (.int .i64 1)]⟩,
    ⟨none, some 10, true, .mv, [.t 27]⟩])))
def Mc.licitref17_Parse : MC := (.seq (.reg [
    ⟨none, some 2, true, .pre [.spare 2] (.newnil 6), []⟩,
    ⟨none, some 3, true, .mv, [.c (.int .i64 0)]⟩,
    ⟨none, some 4, true, .mv, [.c (.int .i64 0)]⟩])
  (.seq (.reg [
    ⟨none, some 17, false, .mv, [.t 0]⟩,
    ⟨none, some 18, false, .pre [.settle] (.call Fn.licitref16_Cut), [.t 17, .c (.int .u8 10)]⟩,
    ⟨none, some 5, true, .mv, [.t 18]⟩])
  (.seq (.reg [
    ⟨none, some 19, false, .mv, [.t 5]⟩,
    ⟨none, some 20, false, .len 1, [.t 19]⟩,
    ⟨none, some 21, false, .bin .sub, [.t 20, .c (.int .i64 1)]⟩,
    ⟨none, some 6, true, .mv, [.t 21]⟩])
  (.seq (.reg [
    ⟨none, some 22, false, .bsl true 6, []⟩,
    ⟨none, some 7, true, .mv, [.t 22]⟩])
  (.seq (.reg [
    ⟨none, some 8, true, .mv, [.c (.bool false)]⟩])
  (.seq (.reg [
    ⟨none, some 9, true, .alloc [.int .i64 0, .int .i64 0, .int .i64 0, .nils, .str [], .str []], []⟩])
  (.seq (.seq (.reg [
    ⟨none, some 10, true, .mv, [.c (.int .i64 0)]⟩])
  (.blk 0 (.loop [11, 12, 13, 14, 15] Mc.licitref17_Parse_L0)))
  (.seq (.seq (.reg [
    ⟨none, some 92, false, .mv, [.t 5]⟩,
    ⟨none, some 93, false, .mv, [.t 6]⟩,
    ⟨none, some 94, false, .iadr 1, [.t 92, .t 93]⟩,
    ⟨none, some 95, false, .ld 1 false, [.t 94]⟩,
    ⟨none, some 96, false, .bin .neq, [.t 95, .c (.str [])]⟩])
  (.ite (.t 96)
    (.seq (.reg [
      ⟨none, some 97, false, .mv, [.t 6]⟩,
      ⟨none, some 2, true, .pre [.spare 2] (.newnil 6), []⟩,
      ⟨none, some 3, true, .mv, [.t 97]⟩,
      ⟨none, some 4, true, .mv, [.c (.int .i64 4)]⟩])
    .ret)
    .skip))
  (.seq (.seq (.reg [
    ⟨none, some 98, false, .mv, [.t 8]⟩])
  (.ite (.t 98)
    (.seq (.reg [
      ⟨none, some 99, false, .mv, [.t 6]⟩,
      ⟨none, some 2, true, .pre [.spare 2] (.newnil 6), []⟩,
      ⟨none, some 3, true, .mv, [.t 99]⟩,
      ⟨none, some 4, true, .mv, [.c (.int .i64 13)]⟩])
    .ret)
    .skip))
  (.seq (.reg [
    ⟨none, some 100, false, .mv, [.t 7]⟩,
    ⟨none, some 101, false, .pre [.settle] (.call Fn.licitref17_Check), [.t 100]⟩,
    ⟨none, some 16, true, .mv, [.t 101]⟩])
  (.seq (.seq (.reg [
    ⟨none, some 102, false, .mv, [.t 16]⟩,
    ⟨none, some 103, false, .bin .neq, [.t 102, .c (.int .i64 0)]⟩])
  (.ite (.t 103)
    (.seq (.reg [
      ⟨none, some 104, false, .mv, [.t 16]⟩,
      ⟨none, some 2, true, .pre [.spare 2] (.newnil 6), []⟩,
      ⟨none, some 3, true, .mv, [.c (.int .i64 (-1))]⟩,
      ⟨none, some 4, true, .mv, [.t 104]⟩])
    .ret)
    .skip))
  (.seq (.reg [
    ⟨none, some 105, false, .mv, [.t 7]⟩,
    ⟨none, some 2, true, .mv, [.t 105]⟩,
    ⟨none, some 3, true, .mv, [.c (.int .i64 (-1))]⟩,
    ⟨none, some 4, true, .mv, [.c (.int .i64 0)]⟩])
  .ret))))))))))))

/-- licit/licitlaw17.same -/
def Ks.licitlaw17_same : List Nat := [0, 1, 4]
def Rs.licitlaw17_same : List RV := [.tmp 4]
def Dl.licitlaw17_same : List (List Nat) := []
def Mc.licitlaw17_same : MC := (.seq (.reg [
    ⟨none, some 4, true, .mv, [.c (.bool false)]⟩])
  (.seq (.reg [
    ⟨none, some 5, false, .mv, [.t 0]⟩,
    ⟨none, some 6, false, .mv, [.t 1]⟩,
    ⟨none, some 7, false, .call Fn.licitref17_Diverge, [.t 5, .t 6]⟩,
    ⟨none, some 8, false, .bin .eql, [.t 7, .c (.int .i64 (-1))]⟩,
    ⟨none, some 4, true, .mv, [.t 8]⟩])
  .ret))

/-- licit/record.Print$1 -/
def Ks.record_Print_1 : List Nat := [0, 1, 2, 4, 5]
def Rs.record_Print_1 : List RV := []
def Dl.record_Print_1 : List (List Nat) := []
def Ow.record_Print_1 : List Nat := [1000037]
def Mc.record_Print_1 : MC := (.seq (.reg [
    ⟨none, some 4, true, .box, [.t 1]⟩])
  (.seq (.reg [
    ⟨none, some 8, false, .fadr 1, [.t 4]⟩,
    ⟨none, some 9, false, .ld 1 false, [.t 8]⟩,
    ⟨none, some 10, false, .call Fn.digest_Hex, [.t 9]⟩,
    ⟨none, some 7, false, .mv, [.t 10]⟩,
    ⟨none, some 11, false, .ext 0, [.t 7]⟩,
    ⟨none, some 12, false, .ext 1, [.t 7]⟩,
    ⟨none, some 5, true, .mv, [.t 11]⟩,
    ⟨none, some 6, false, .mv, [.t 12]⟩])
  (.reg [
    ⟨none, some 13, false, .mv, [.t 0]⟩,
    ⟨none, some 14, false, .bin .add, [.t 13, .c (.str [32])]⟩,
    ⟨none, some 15, false, .fadr 0, [.t 4]⟩,
    ⟨none, some 16, false, .ld 1 false, [.t 15]⟩,
    ⟨none, some 17, false, .bin .add, [.t 14, .t 16]⟩,
    ⟨none, some 18, false, .bin .add, [.t 17, .c (.str [32])]⟩,
    ⟨none, some 19, false, .mv, [.t 5]⟩,
    ⟨none, some 20, false, .bin .add, [.t 18, .t 19]⟩,
    ⟨none, some 21, false, .bin .add, [.t 20, .c (.str [10])]⟩,
    ⟨none, some 22, false, .callg Fn.__strings_Builder__WriteString, [.t 2, .t 21]⟩])))

/-- licit/digest.Hex -/
def Ks.digest_Hex : List Nat := [0, 2, 3, 4, 5, 6]
def Rs.digest_Hex : List RV := [.tmp 2, .tmp 3]
def Dl.digest_Hex : List (List Nat) := [[]]
def Ow.digest_Hex : List Nat := [1000039]
def Mc.digest_Hex_L0 : MC := (.seq (.seq (.reg [
    ⟨none, some 11, false, .mv, [.t 6]⟩,
    ⟨none, some 12, false, .mv, [.t 0]⟩,
    ⟨none, some 13, false, .len 0, [.t 12]⟩,
    ⟨none, some 14, false, .bin .lss, [.t 11, .t 13]⟩])
  (.ite (.t 14)
    .skip
    (.exit 0)))
  (.seq (.blk 1 (.seq (.reg [
    ⟨none, some 17, false, .mv, [.t 5]⟩,
    ⟨none, some 18, false, .mv, [.t 0]⟩,
    ⟨none, some 19, false, .mv, [.t 6]⟩,
    ⟨none, some 20, false, .istr, [.t 18, .t 19]⟩,
    ⟨none, some 21, false, .bin .shr, [.t 20, .c (.int .u64 4)]⟩,
    ⟨none, some 22, false, .callv, [.t 17, .t 21]⟩])
  (.reg [
    ⟨none, some 23, false, .mv, [.t 5]⟩,
    ⟨none, some 24, false, .mv, [.t 0]⟩,
    ⟨none, some 25, false, .mv, [.t 6]⟩,
    ⟨none, some 26, false, .istr, [.t 24, .t 25]⟩,
    ⟨none, some 27, false, .bin .and, [.t 26, .c (.int .u8 15)]⟩,
    ⟨none, some 28, false, .callv, [.t 23, .t 27]⟩])))
  (.reg [
    ⟨none, some 15, false, .mv, [.t 6]⟩,
    ⟨none, some 16, false, .bin .add, [.t 15, .c (.int .i64 1)]⟩,
    ⟨none, some 6, true, .mv, [.t 16]⟩])))
def Mc.digest_Hex : MC := (.seq (.reg [
    ⟨none, some 2, true, .mv, [.c (.str [])]⟩,
    ⟨none, some 3, true, .mv, [.c (.int .i64 0)]⟩])
  (.seq (.seq (.reg [
    ⟨none, some 7, false, .mv, [.t 0]⟩,
    ⟨none, some 8, false, .len 0, [.t 7]⟩,
    ⟨none, some 9, false, .bin .neq, [.t 8, .c (.int .i64 32)]⟩])
  (.ite (.t 9)
    (.seq (.reg [
      ⟨none, some 2, true, .mv, [.c (.str [])]⟩,
      ⟨none, some 3, true, .mv, [.c (.int .i64 1)]⟩])
    .ret)
    .skip))
  (.seq (.reg [
    ⟨none, some 4, true, .allocB 73 5, []⟩])
  (.seq (.reg [
    ⟨none, some 10, false, .mkfn Fn.digest_Hex_1, [.t 4]⟩,
    ⟨none, some 5, true, .mv, [.t 10]⟩])
  (.seq (.seq (.reg [
    ⟨none, some 6, true, .mv, [.c (.int .i64 0)]⟩])
  (.blk 0 (.loop [] Mc.digest_Hex_L0)))
  (.seq (.reg [
    ⟨none, some 29, false, .callg Fn.__strings_Builder__String, [.t 4]⟩,
    ⟨none, some 2, true, .mv, [.t 29]⟩,
    ⟨none, some 3, true, .mv, [.c (.int .i64 0)]⟩])
  .ret))))))

/-- (*strings.Builder).WriteString -/
def Ks.__strings_Builder__WriteString : List Nat := [0, 1, 4, 5]
def Rs.__strings_Builder__WriteString : List RV := [.tmp 4, .tmp 5]
def Dl.__strings_Builder__WriteString : List (List Nat) := []
def Ow.__strings_Builder__WriteString : List Nat := [14, 1000066]
def Mc.__strings_Builder__WriteString : MC := (.seq (.reg [
    ⟨none, some 4, true, .mv, [.c (.int .i64 0)]⟩,
    ⟨none, some 5, true, .mv, [.c (.nili)]⟩])
  (.seq (.reg [
    ⟨none, some 6, false, .mv, [.t 0]⟩,
    ⟨none, some 7, false, .callg Fn.__strings_Builder__copyCheck, [.t 6]⟩])
  (.seq (.reg [
    ⟨none, some 8, false, .mv, [.t 0]⟩,
    ⟨none, some 9, false, .mv, [.t 0]⟩,
    ⟨none, some 10, false, .nilck, [.t 9]⟩,
    ⟨none, some 11, false, .fadr 1, [.t 10]⟩,
    ⟨none, some 12, false, .ld 1 false, [.t 11]⟩,
    ⟨none, some 13, false, .mv, [.t 1]⟩,
    ⟨none, some 14, false, .appT true 1 1 5, [.t 12, .t 13]⟩,
    ⟨none, some 15, false, .nilck, [.t 8]⟩,
    ⟨none, some 16, false, .fadr 1, [.t 15]⟩,
    ⟨none, none, false, .st 1, [.t 16, .t 14]⟩])
  (.seq (.reg [
    ⟨none, some 17, false, .mv, [.t 1]⟩,
    ⟨none, some 18, false, .len 0, [.t 17]⟩,
    ⟨none, some 4, true, .mv, [.t 18]⟩,
    ⟨none, some 5, true, .mv, [.c (.nili)]⟩])
  .ret))))

/-- (*strings.Builder).String -/
def Ks.__strings_Builder__String : List Nat := [0, 2]
def Rs.__strings_Builder__String : List RV := [.tmp 2]
def Dl.__strings_Builder__String : List (List Nat) := []
def Mc.__strings_Builder__String : MC := (.seq (.reg [
    ⟨none, some 2, true, .mv, [.c (.str [])]⟩])
  (.seq (.rgd [
    ⟨none, some 3, false, .mv, [.t 0]⟩,
    ⟨none, some 4, false, .nilck, [.t 3]⟩,
    ⟨none, some 5, false, .fadr 1, [.t 4]⟩,
    ⟨none, some 6, false, .ld 1 false, [.t 5]⟩,
    ⟨none, some 7, false, .usd, [.t 6]⟩,
    ⟨none, some 8, false, .mv, [.t 0]⟩,
    ⟨none, some 9, false, .nilck, [.t 8]⟩,
    ⟨none, some 10, false, .fadr 1, [.t 9]⟩,
    ⟨none, some 11, false, .ld 1 false, [.t 10]⟩,
    ⟨none, some 12, false, .len 1, [.t 11]⟩,
    ⟨none, some 13, false, .ustr 5, [.t 7, .t 12]⟩,
    ⟨none, some 2, true, .mv, [.t 13]⟩])
  .ret))

/-- (*strings.Builder).WriteByte -/
def Ks.__strings_Builder__WriteByte : List Nat := [0, 1, 4]
def Rs.__strings_Builder__WriteByte : List RV := [.tmp 4]
def Dl.__strings_Builder__WriteByte : List (List Nat) := []
def Ow.__strings_Builder__WriteByte : List Nat := [14, 1000066]
def Mc.__strings_Builder__WriteByte : MC := (.seq (.reg [
    ⟨none, some 4, true, .mv, [.c (.nili)]⟩])
  (.seq (.reg [
    ⟨none, some 5, false, .mv, [.t 0]⟩,
    ⟨none, some 6, false, .callg Fn.__strings_Builder__copyCheck, [.t 5]⟩])
  (.seq (.reg [
    ⟨none, some 7, false, .mv, [.t 0]⟩,
    ⟨none, some 8, false, .mv, [.t 0]⟩,
    ⟨none, some 9, false, .nilck, [.t 8]⟩,
    ⟨none, some 10, false, .fadr 1, [.t 9]⟩,
    ⟨none, some 11, false, .ld 1 false, [.t 10]⟩,
    ⟨none, some 12, false, .mv, [.t 1]⟩,
    ⟨none, some 13, false, .bsl false 1, [.t 12]⟩,
    ⟨none, some 14, false, .appT false 1 1 5, [.t 11, .t 13]⟩,
    ⟨none, some 15, false, .nilck, [.t 7]⟩,
    ⟨none, some 16, false, .fadr 1, [.t 15]⟩,
    ⟨none, none, false, .st 1, [.t 16, .t 14]⟩])
  (.seq (.reg [
    ⟨none, some 4, true, .mv, [.c (.nili)]⟩])
  .ret))))

/-- licit/licitref16.Decimal -/
def Ks.licitref16_Decimal : List Nat := [0, 2]
def Rs.licitref16_Decimal : List RV := [.tmp 2]
def Dl.licitref16_Decimal : List (List Nat) := []
def Mc.licitref16_Decimal : MC := (.seq (.reg [
    ⟨none, some 2, true, .mv, [.c (.str [])]⟩])
  (.seq (.seq (.reg [
    ⟨none, some 3, false, .mv, [.t 0]⟩,
    ⟨none, some 4, false, .bin .lss, [.t 3, .c (.int .i64 10)]⟩])
  (.ite (.t 4)
    (.seq (.reg [
      ⟨none, some 5, false, .mv, [.t 0]⟩,
      ⟨none, some 6, false, .bin .add, [.c (.int .i64 48), .t 5]⟩,
      ⟨none, some 7, false, .conv .u8, [.t 6]⟩,
      ⟨none, some 8, false, .bsl false 1, [.t 7]⟩,
      ⟨none, some 9, false, .b2s, [.t 8]⟩,
      ⟨none, some 2, true, .mv, [.t 9]⟩])
    .ret)
    .skip))
  (.seq (.reg [
    ⟨none, some 10, false, .mv, [.t 0]⟩,
    ⟨none, some 11, false, .bin .quo, [.t 10, .c (.int .i64 10)]⟩,
    ⟨none, some 12, false, .call Fn.licitref16_Decimal, [.t 11]⟩,
    ⟨none, some 13, false, .mv, [.t 0]⟩,
    ⟨none, some 14, false, .bin .rem, [.t 13, .c (.int .i64 10)]⟩,
    ⟨none, some 15, false, .call Fn.licitref16_Decimal, [.t 14]⟩,
    ⟨none, some 16, false, .bin .add, [.t 12, .t 15]⟩,
    ⟨none, some 2, true, .mv, [.t 16]⟩])
  .ret)))

/-- licit/licitref17.touch -/
def Ks.licitref17_touch : List Nat := [0, 1, 3, 4]
def Rs.licitref17_touch : List RV := [.tmp 4]
def Dl.licitref17_touch : List (List Nat) := []
def Mc.licitref17_touch : MC := (.seq (.reg [
    ⟨none, some 3, true, .box, [.t 1]⟩,
    ⟨none, some 4, true, .mv, [.c (.str [])]⟩])
  (.seq (.rgd [
    ⟨none, some 5, false, .mv, [.t 0]⟩,
    ⟨none, some 6, false, .bin .add, [.t 5, .c (.str [32])]⟩,
    ⟨none, some 7, false, .fadr 0, [.t 3]⟩,
    ⟨none, some 8, false, .ld 1 false, [.t 7]⟩,
    ⟨none, some 9, false, .bin .add, [.t 6, .t 8]⟩,
    ⟨none, some 10, false, .bin .add, [.t 9, .c (.str [32])]⟩,
    ⟨none, some 11, false, .fadr 1, [.t 3]⟩,
    ⟨none, some 12, false, .ld 1 false, [.t 11]⟩,
    ⟨none, some 13, false, .call Fn.licitref17_hex, [.t 12]⟩,
    ⟨none, some 14, false, .bin .add, [.t 10, .t 13]⟩,
    ⟨none, some 15, false, .bin .add, [.t 14, .c (.str [10])]⟩,
    ⟨none, some 4, true, .mv, [.t 15]⟩])
  .ret))

/-- licit/record.step -/
def Ks.record_step : List Nat := [0, 2, 3, 4]
def Rs.record_step : List RV := [.cell 2 6 true, .tmp 3]
def Dl.record_step : List (List Nat) := []
def Mc.record_step : MC := (.seq (.reg [
    ⟨none, some 2, true, .alloc [.int .i64 0, .int .i64 0, .int .i64 0, .nils, .str [], .str []], []⟩,
    ⟨none, some 3, true, .mv, [.c (.bool false)]⟩])
  (.seq (.seq (.reg [
    ⟨none, some 5, false, .mv, [.t 0]⟩,
    ⟨none, some 6, false, .len 1, [.t 5]⟩,
    ⟨none, some 7, false, .bin .neq, [.t 6, .c (.int .i64 4)]⟩,
    ⟨none, some 8, false, .mv, [.t 7]⟩,
    ⟨some (8, false), some 9, false, .mv, [.t 0]⟩,
    ⟨some (8, false), some 10, false, .iadr 1, [.t 9, .c (.int .i64 0)]⟩,
    ⟨some (8, false), some 11, false, .ld 1 false, [.t 10]⟩,
    ⟨some (8, false), some 12, false, .bin .neq, [.t 11, .c (.str [115, 116, 101, 112])]⟩,
    ⟨none, some 13, false, .pick, [.t 8, .c (.bool true), .t 12]⟩])
  (.ite (.t 13)
    (.seq (.reg [
      ⟨none, some 14, false, .bld [.int .i64 0, .int .i64 0, .int .i64 0, .nils, .str [], .str []] [], []⟩,
      ⟨none, none, false, .st 6, [.t 2, .t 14]⟩,
      ⟨none, some 3, true, .mv, [.c (.bool false)]⟩])
    .ret)
    .skip))
  (.seq (.rge [
    (false, [], ⟨none, some 15, false, .mv, [.t 0]⟩),
    (false, [12], ⟨none, some 16, false, .iadr 1, [.t 15, .c (.int .i64 1)]⟩),
    (false, [11], ⟨none, some 17, false, .ld 1 false, [.t 16]⟩),
    (false, [10], ⟨none, some 18, false, .call Fn.record_number, [.t 17]⟩),
    (false, [], ⟨none, some 19, false, .mv, [.t 0]⟩),
    (false, [8], ⟨none, some 20, false, .iadr 1, [.t 19, .c (.int .i64 2)]⟩),
    (false, [7], ⟨none, some 21, false, .ld 1 false, [.t 20]⟩),
    (false, [6], ⟨none, some 22, false, .call Fn.record_number, [.t 21]⟩),
    (false, [], ⟨none, some 23, false, .mv, [.t 0]⟩),
    (false, [4], ⟨none, some 24, false, .iadr 1, [.t 23, .c (.int .i64 3)]⟩),
    (false, [3], ⟨none, some 25, false, .ld 1 false, [.t 24]⟩),
    (false, [2], ⟨none, some 26, false, .call Fn.record_number, [.t 25]⟩),
    (false, [1], ⟨none, some 27, false, .bld [.int .i64 0, .int .i64 0, .int .i64 0, .nils, .str [], .str []] [(0, 1), (1, 1), (2, 1)], [.t 18, .t 22, .t 26]⟩),
    (false, [], ⟨none, some 4, true, .alloc [.int .i64 0, .int .i64 0, .int .i64 0, .nils, .str [], .str []], []⟩),
    (false, [], ⟨none, none, false, .st 6, [.t 4, .t 27]⟩)])
  (.seq (.rge [
    (false, [], ⟨none, some 28, false, .ld 6 true, [.t 4]⟩),
    (false, [], ⟨none, some 29, false, .fadr 0, [.t 4]⟩),
    (false, [], ⟨none, some 30, false, .ld 1 false, [.t 29]⟩),
    (false, [], ⟨none, some 31, false, .bin .geq, [.t 30, .c (.int .i64 0)]⟩),
    (false, [], ⟨none, some 32, false, .mv, [.t 31]⟩),
    (false, [], ⟨some (32, true), some 33, false, .fadr 1, [.t 4]⟩),
    (false, [], ⟨some (32, true), some 34, false, .ld 1 false, [.t 33]⟩),
    (false, [], ⟨some (32, true), some 35, false, .bin .geq, [.t 34, .c (.int .i64 0)]⟩),
    (false, [], ⟨none, some 36, false, .pick, [.t 32, .t 35, .c (.bool false)]⟩),
    (false, [], ⟨none, some 37, false, .mv, [.t 36]⟩),
    (false, [4], ⟨some (37, true), some 38, false, .fadr 2, [.t 4]⟩),
    (false, [3], ⟨some (37, true), some 39, false, .ld 1 false, [.t 38]⟩),
    (false, [], ⟨some (37, true), some 40, false, .bin .geq, [.t 39, .c (.int .i64 0)]⟩),
    (false, [], ⟨none, some 41, false, .pick, [.t 37, .t 40, .c (.bool false)]⟩),
    (false, [], ⟨none, none, false, .st 6, [.t 2, .t 28]⟩),
    (false, [], ⟨none, some 3, true, .mv, [.t 41]⟩)])
  .ret))))

/-- licit/record.file -/
def Ks.record_file : List Nat := [0, 2, 3, 4, 5]
def Rs.record_file : List RV := [.cell 2 2 true, .tmp 3]
def Dl.record_file : List (List Nat) := []
def Mc.record_file : MC := (.seq (.reg [
    ⟨none, some 2, true, .alloc [.str [], .str []], []⟩,
    ⟨none, some 3, true, .mv, [.c (.bool false)]⟩])
  (.seq (.seq (.reg [
    ⟨none, some 6, false, .mv, [.t 0]⟩,
    ⟨none, some 7, false, .len 1, [.t 6]⟩,
    ⟨none, some 8, false, .bin .neq, [.t 7, .c (.int .i64 3)]⟩,
    ⟨none, some 9, false, .mv, [.t 8]⟩,
    ⟨some (9, false), some 10, false, .mv, [.t 0]⟩,
    ⟨some (9, false), some 11, false, .iadr 1, [.t 10, .c (.int .i64 1)]⟩,
    ⟨some (9, false), some 12, false, .ld 1 false, [.t 11]⟩,
    ⟨some (9, false), some 13, false, .bin .eql, [.t 12, .c (.str [])]⟩,
    ⟨none, some 14, false, .pick, [.t 9, .c (.bool true), .t 13]⟩])
  (.ite (.t 14)
    (.seq (.reg [
      ⟨none, some 15, false, .bld [.str [], .str []] [], []⟩,
      ⟨none, none, false, .st 2, [.t 2, .t 15]⟩,
      ⟨none, some 3, true, .mv, [.c (.bool false)]⟩])
    .ret)
    .skip))
  (.seq (.reg [
    ⟨none, some 17, false, .mv, [.t 0]⟩,
    ⟨none, some 18, false, .iadr 1, [.t 17, .c (.int .i64 2)]⟩,
    ⟨none, some 19, false, .ld 1 false, [.t 18]⟩,
    ⟨none, some 20, false, .call Fn.digest_Parse, [.t 19]⟩,
    ⟨none, some 16, false, .mv, [.t 20]⟩,
    ⟨none, some 21, false, .ext 0, [.t 16]⟩,
    ⟨none, some 22, false, .ext 1, [.t 16]⟩,
    ⟨none, some 4, true, .mv, [.t 21]⟩,
    ⟨none, some 5, true, .mv, [.t 22]⟩])
  (.seq (.reg [
    ⟨none, some 23, false, .mv, [.t 0]⟩,
    ⟨none, some 24, false, .iadr 1, [.t 23, .c (.int .i64 1)]⟩,
    ⟨none, some 25, false, .ld 1 false, [.t 24]⟩,
    ⟨none, some 26, false, .mv, [.t 4]⟩,
    ⟨none, some 27, false, .bld [.str [], .str []] [(0, 1), (1, 1)], [.t 25, .t 26]⟩,
    ⟨none, some 28, false, .mv, [.t 5]⟩,
    ⟨none, some 29, false, .bin .eql, [.t 28, .c (.int .i64 0)]⟩,
    ⟨none, none, false, .st 2, [.t 2, .t 27]⟩,
    ⟨none, some 3, true, .mv, [.t 29]⟩])
  .ret))))

/-- licit/licitref16.Cut -/
def Ks.licitref16_Cut : List Nat := [0, 1, 4, 5, 6, 7]
def Rs.licitref16_Cut : List RV := [.tmp 4]
def Dl.licitref16_Cut : List (List Nat) := [[]]
def Mc.licitref16_Cut_L0 : MC := (.seq (.seq (.reg [
    ⟨none, some 9, false, .mv, [.t 7]⟩,
    ⟨none, some 10, false, .mv, [.t 0]⟩,
    ⟨none, some 11, false, .len 0, [.t 10]⟩,
    ⟨none, some 12, false, .bin .leq, [.t 9, .t 11]⟩])
  (.ite (.t 12)
    .skip
    (.exit 0)))
  (.seq (.blk 1 (.seq (.reg [
    ⟨none, some 15, false, .mv, [.t 7]⟩,
    ⟨none, some 16, false, .mv, [.t 0]⟩,
    ⟨none, some 17, false, .len 0, [.t 16]⟩,
    ⟨none, some 18, false, .bin .eql, [.t 15, .t 17]⟩,
    ⟨none, some 19, false, .mv, [.t 18]⟩,
    ⟨some (19, false), some 20, false, .mv, [.t 0]⟩,
    ⟨some (19, false), some 21, false, .mv, [.t 7]⟩,
    ⟨some (19, false), some 22, false, .istr, [.t 20, .t 21]⟩,
    ⟨some (19, false), some 23, false, .mv, [.t 1]⟩,
    ⟨some (19, false), some 24, false, .bin .eql, [.t 22, .t 23]⟩,
    ⟨none, some 25, false, .pick, [.t 19, .c (.bool true), .t 24]⟩])
  (.ite (.t 25)
    (.seq (.reg [
      ⟨none, some 26, false, .mv, [.t 5]⟩,
      ⟨none, some 27, false, .mv, [.t 0]⟩,
      ⟨none, some 28, false, .mv, [.t 6]⟩,
      ⟨none, some 29, false, .mv, [.t 7]⟩,
      ⟨none, some 30, false, .slc none true true false, [.t 27, .t 28, .t 29]⟩,
      ⟨none, some 31, false, .bsl false 1, [.t 30]⟩,
      ⟨none, some 32, false, .app false 1 16, [.t 26, .t 31]⟩,
      ⟨none, some 5, true, .mv, [.t 32]⟩])
    (.reg [
      ⟨none, some 33, false, .mv, [.t 7]⟩,
      ⟨none, some 34, false, .bin .add, [.t 33, .c (.int .i64 1)]⟩,
      ⟨none, some 6, true, .mv, [.t 34]⟩]))
    .skip)))
  (.reg [
    ⟨none, some 13, false, .mv, [.t 7]⟩,
    ⟨none, some 14, false, .bin .add, [.t 13, .c (.int .i64 1)]⟩,
    ⟨none, some 7, true, .mv, [.t 14]⟩])))
def Mc.licitref16_Cut : MC := (.seq (.reg [
    ⟨none, some 4, true, .newnil 1, []⟩])
  (.seq (.reg [
    ⟨none, some 8, false, .bsl false 1, []⟩,
    ⟨none, some 5, true, .mv, [.t 8]⟩])
  (.seq (.reg [
    ⟨none, some 6, true, .mv, [.c (.int .i64 0)]⟩])
  (.seq (.seq (.reg [
    ⟨none, some 7, true, .mv, [.c (.int .i64 0)]⟩])
  (.blk 0 (.loop [] Mc.licitref16_Cut_L0)))
  (.seq (.reg [
    ⟨none, some 35, false, .mv, [.t 5]⟩,
    ⟨none, some 4, true, .mv, [.t 35]⟩])
  .ret)))))

/-- licit/licitref17.head -/
def Ks.licitref17_head : List Nat := [0, 2, 3, 4, 5, 6, 7, 8, 9]
def Rs.licitref17_head : List RV := [.cell 2 6 true, .tmp 3]
def Dl.licitref17_head : List (List Nat) := []
def Mc.licitref17_head : MC := (.seq (.reg [
    ⟨none, some 2, true, .alloc [.int .i64 0, .int .i64 0, .int .i64 0, .nils, .str [], .str []], []⟩,
    ⟨none, some 3, true, .mv, [.c (.bool false)]⟩])
  (.seq (.seq (.reg [
    ⟨none, some 10, false, .mv, [.t 0]⟩,
    ⟨none, some 11, false, .len 1, [.t 10]⟩,
    ⟨none, some 12, false, .bin .neq, [.t 11, .c (.int .i64 4)]⟩,
    ⟨none, some 13, false, .mv, [.t 12]⟩,
    ⟨some (13, false), some 14, false, .mv, [.t 0]⟩,
    ⟨some (13, false), some 15, false, .iadr 1, [.t 14, .c (.int .i64 0)]⟩,
    ⟨some (13, false), some 16, false, .ld 1 false, [.t 15]⟩,
    ⟨some (13, false), some 17, false, .bin .neq, [.t 16, .c (.str [115, 116, 101, 112])]⟩,
    ⟨none, some 18, false, .pick, [.t 13, .c (.bool true), .t 17]⟩])
  (.ite (.t 18)
    (.seq (.reg [
      ⟨none, some 19, false, .bld [.int .i64 0, .int .i64 0, .int .i64 0, .nils, .str [], .str []] [], []⟩,
      ⟨none, none, false, .st 6, [.t 2, .t 19]⟩,
      ⟨none, some 3, true, .mv, [.c (.bool false)]⟩])
    .ret)
    .skip))
  (.seq (.reg [
    ⟨none, some 21, false, .mv, [.t 0]⟩,
    ⟨none, some 22, false, .iadr 1, [.t 21, .c (.int .i64 1)]⟩,
    ⟨none, some 23, false, .ld 1 false, [.t 22]⟩,
    ⟨none, some 24, false, .call Fn.licitref16_Number, [.t 23, .c (.int .i64 4)]⟩,
    ⟨none, some 20, false, .mv, [.t 24]⟩,
    ⟨none, some 25, false, .ext 0, [.t 20]⟩,
    ⟨none, some 26, false, .ext 1, [.t 20]⟩,
    ⟨none, some 4, true, .mv, [.t 25]⟩,
    ⟨none, some 5, true, .mv, [.t 26]⟩])
  (.seq (.reg [
    ⟨none, some 28, false, .mv, [.t 0]⟩,
    ⟨none, some 29, false, .iadr 1, [.t 28, .c (.int .i64 2)]⟩,
    ⟨none, some 30, false, .ld 1 false, [.t 29]⟩,
    ⟨none, some 31, false, .call Fn.licitref16_Number, [.t 30, .c (.int .i64 4)]⟩,
    ⟨none, some 27, false, .mv, [.t 31]⟩,
    ⟨none, some 32, false, .ext 0, [.t 27]⟩,
    ⟨none, some 33, false, .ext 1, [.t 27]⟩,
    ⟨none, some 6, true, .mv, [.t 32]⟩,
    ⟨none, some 7, true, .mv, [.t 33]⟩])
  (.seq (.reg [
    ⟨none, some 35, false, .mv, [.t 0]⟩,
    ⟨none, some 36, false, .iadr 1, [.t 35, .c (.int .i64 3)]⟩,
    ⟨none, some 37, false, .ld 1 false, [.t 36]⟩,
    ⟨none, some 38, false, .call Fn.licitref16_Number, [.t 37, .c (.int .i64 4)]⟩,
    ⟨none, some 34, false, .mv, [.t 38]⟩,
    ⟨none, some 39, false, .ext 0, [.t 34]⟩,
    ⟨none, some 40, false, .ext 1, [.t 34]⟩,
    ⟨none, some 8, true, .mv, [.t 39]⟩,
    ⟨none, some 9, true, .mv, [.t 40]⟩])
  (.seq (.reg [
    ⟨none, some 41, false, .mv, [.t 4]⟩,
    ⟨none, some 42, false, .mv, [.t 6]⟩,
    ⟨none, some 43, false, .mv, [.t 8]⟩,
    ⟨none, some 44, false, .bld [.int .i64 0, .int .i64 0, .int .i64 0, .nils, .str [], .str []] [(0, 1), (1, 1), (2, 1)], [.t 41, .t 42, .t 43]⟩,
    ⟨none, some 45, false, .mv, [.t 5]⟩,
    ⟨none, some 46, false, .mv, [.t 45]⟩,
    ⟨some (46, true), some 47, false, .mv, [.t 7]⟩,
    ⟨none, some 48, false, .pick, [.t 46, .t 47, .c (.bool false)]⟩,
    ⟨none, some 49, false, .mv, [.t 48]⟩,
    ⟨some (49, true), some 50, false, .mv, [.t 9]⟩,
    ⟨none, some 51, false, .pick, [.t 49, .t 50, .c (.bool false)]⟩,
    ⟨none, none, false, .st 6, [.t 2, .t 44]⟩,
    ⟨none, some 3, true, .mv, [.t 51]⟩])
  .ret))))))

/-- licit/licitref17.file -/
def Ks.licitref17_file : List Nat := [0, 2, 3, 4, 5]
def Rs.licitref17_file : List RV := [.cell 2 2 true, .tmp 3]
def Dl.licitref17_file : List (List Nat) := []
def Mc.licitref17_file : MC := (.seq (.reg [
    ⟨none, some 2, true, .alloc [.str [], .str []], []⟩,
    ⟨none, some 3, true, .mv, [.c (.bool false)]⟩])
  (.seq (.seq (.reg [
    ⟨none, some 6, false, .mv, [.t 0]⟩,
    ⟨none, some 7, false, .len 1, [.t 6]⟩,
    ⟨none, some 8, false, .bin .neq, [.t 7, .c (.int .i64 3)]⟩,
    ⟨none, some 9, false, .mv, [.t 8]⟩,
    ⟨some (9, false), some 10, false, .mv, [.t 0]⟩,
    ⟨some (9, false), some 11, false, .iadr 1, [.t 10, .c (.int .i64 1)]⟩,
    ⟨some (9, false), some 12, false, .ld 1 false, [.t 11]⟩,
    ⟨some (9, false), some 13, false, .bin .eql, [.t 12, .c (.str [])]⟩,
    ⟨none, some 14, false, .pick, [.t 9, .c (.bool true), .t 13]⟩])
  (.ite (.t 14)
    (.seq (.reg [
      ⟨none, some 15, false, .bld [.str [], .str []] [], []⟩,
      ⟨none, none, false, .st 2, [.t 2, .t 15]⟩,
      ⟨none, some 3, true, .mv, [.c (.bool false)]⟩])
    .ret)
    .skip))
  (.seq (.reg [
    ⟨none, some 17, false, .mv, [.t 0]⟩,
    ⟨none, some 18, false, .iadr 1, [.t 17, .c (.int .i64 2)]⟩,
    ⟨none, some 19, false, .ld 1 false, [.t 18]⟩,
    ⟨none, some 20, false, .call Fn.licitref17_bytes, [.t 19]⟩,
    ⟨none, some 16, false, .mv, [.t 20]⟩,
    ⟨none, some 21, false, .ext 0, [.t 16]⟩,
    ⟨none, some 22, false, .ext 1, [.t 16]⟩,
    ⟨none, some 4, true, .mv, [.t 21]⟩,
    ⟨none, some 5, true, .mv, [.t 22]⟩])
  (.seq (.reg [
    ⟨none, some 23, false, .mv, [.t 0]⟩,
    ⟨none, some 24, false, .iadr 1, [.t 23, .c (.int .i64 1)]⟩,
    ⟨none, some 25, false, .ld 1 false, [.t 24]⟩,
    ⟨none, some 26, false, .mv, [.t 4]⟩,
    ⟨none, some 27, false, .bld [.str [], .str []] [(0, 1), (1, 1)], [.t 25, .t 26]⟩,
    ⟨none, some 28, false, .mv, [.t 5]⟩,
    ⟨none, none, false, .st 2, [.t 2, .t 27]⟩,
    ⟨none, some 3, true, .mv, [.t 28]⟩])
  .ret))))

/-- licit/digest.Hex$1 -/
def Ks.digest_Hex_1 : List Nat := [0, 1]
def Rs.digest_Hex_1 : List RV := []
def Dl.digest_Hex_1 : List (List Nat) := []
def Ow.digest_Hex_1 : List Nat := [1000065]
def Mc.digest_Hex_1 : MC := (.reg [
    ⟨none, some 3, false, .mv, [.t 0]⟩,
    ⟨none, some 4, false, .istr, [.c (.str [48, 49, 50, 51, 52, 53, 54, 55, 56, 57, 97, 98, 99, 100, 101, 102]), .t 3]⟩,
    ⟨none, some 5, false, .callg Fn.__strings_Builder__WriteByte, [.t 1, .t 4]⟩])

/-- licit/licitref17.hex -/
def Ks.licitref17_hex : List Nat := [0, 2, 3, 4, 5]
def Rs.licitref17_hex : List RV := [.tmp 2]
def Dl.licitref17_hex : List (List Nat) := [[]]
def Mc.licitref17_hex_L0 : MC := (.seq (.seq (.reg [
    ⟨none, some 7, false, .mv, [.t 5]⟩,
    ⟨none, some 8, false, .mv, [.t 0]⟩,
    ⟨none, some 9, false, .len 0, [.t 8]⟩,
    ⟨none, some 10, false, .bin .lss, [.t 7, .t 9]⟩])
  (.ite (.t 10)
    .skip
    (.exit 0)))
  (.seq (.blk 1 (.rgd [
    ⟨none, some 13, false, .mv, [.t 4]⟩,
    ⟨none, some 14, false, .mv, [.t 3]⟩,
    ⟨none, some 15, false, .mv, [.t 0]⟩,
    ⟨none, some 16, false, .mv, [.t 5]⟩,
    ⟨none, some 17, false, .istr, [.t 15, .t 16]⟩,
    ⟨none, some 18, false, .bin .quo, [.t 17, .c (.int .u8 16)]⟩,
    ⟨none, some 19, false, .istr, [.t 14, .t 18]⟩,
    ⟨none, some 20, false, .mv, [.t 3]⟩,
    ⟨none, some 21, false, .mv, [.t 0]⟩,
    ⟨none, some 22, false, .mv, [.t 5]⟩,
    ⟨none, some 23, false, .istr, [.t 21, .t 22]⟩,
    ⟨none, some 24, false, .bin .rem, [.t 23, .c (.int .u8 16)]⟩,
    ⟨none, some 25, false, .istr, [.t 20, .t 24]⟩,
    ⟨none, some 26, false, .bsl false 1, [.t 19, .t 25]⟩,
    ⟨none, some 27, false, .app false 1 1, [.t 13, .t 26]⟩,
    ⟨none, some 4, true, .mv, [.t 27]⟩]))
  (.reg [
    ⟨none, some 11, false, .mv, [.t 5]⟩,
    ⟨none, some 12, false, .bin .add, [.t 11, .c (.int .i64 1)]⟩,
    ⟨none, some 5, true, .mv, [.t 12]⟩])))
def Mc.licitref17_hex : MC := (.seq (.reg [
    ⟨none, some 2, true, .mv, [.c (.str [])]⟩])
  (.seq (.reg [
    ⟨none, some 3, true, .mv, [.c (.str [48, 49, 50, 51, 52, 53, 54, 55, 56, 57, 97, 98, 99, 100, 101, 102])]⟩])
  (.seq (.reg [
    ⟨none, some 6, false, .bsl false 1, []⟩,
    ⟨none, some 4, true, .mv, [.t 6]⟩])
  (.seq (.seq (.reg [
    ⟨none, some 5, true, .mv, [.c (.int .i64 0)]⟩])
  (.blk 0 (.loop [] Mc.licitref17_hex_L0)))
  (.seq (.reg [
    ⟨none, some 28, false, .mv, [.t 4]⟩,
    ⟨none, some 29, false, .b2s, [.t 28]⟩,
    ⟨none, some 2, true, .mv, [.t 29]⟩])
  .ret)))))

/-- licit/record.number -/
def Ks.record_number : List Nat := [0, 2, 3, 4]
def Rs.record_number : List RV := [.tmp 2]
def Dl.record_number : List (List Nat) := []
def Mc.record_number : MC := (.seq (.reg [
    ⟨none, some 2, true, .mv, [.c (.int .i64 0)]⟩])
  (.seq (.reg [
    ⟨none, some 6, false, .mv, [.t 0]⟩,
    ⟨none, some 7, false, .call Fn.strconv_Atoi, [.t 6]⟩,
    ⟨none, some 5, false, .mv, [.t 7]⟩,
    ⟨none, some 8, false, .ext 0, [.t 5]⟩,
    ⟨none, some 9, false, .ext 1, [.t 5]⟩,
    ⟨none, some 3, true, .mv, [.t 8]⟩,
    ⟨none, some 4, true, .mv, [.t 9]⟩])
  (.seq (.seq (.reg [
    ⟨none, some 10, false, .mv, [.t 4]⟩,
    ⟨none, some 11, false, .isnili true, [.t 10]⟩,
    ⟨none, some 12, false, .mv, [.t 11]⟩,
    ⟨some (12, false), some 13, false, .mv, [.t 0]⟩,
    ⟨some (12, false), some 14, false, .len 0, [.t 13]⟩,
    ⟨some (12, false), some 15, false, .bin .gtr, [.t 14, .c (.int .i64 4)]⟩,
    ⟨none, some 16, false, .pick, [.t 12, .c (.bool true), .t 15]⟩,
    ⟨none, some 17, false, .mv, [.t 16]⟩,
    ⟨some (17, false), some 18, false, .mv, [.t 3]⟩,
    ⟨some (17, false), some 19, false, .call Fn.strconv_Itoa, [.t 18]⟩,
    ⟨some (17, false), some 20, false, .mv, [.t 0]⟩,
    ⟨some (17, false), some 21, false, .bin .neq, [.t 19, .t 20]⟩,
    ⟨none, some 22, false, .pick, [.t 17, .c (.bool true), .t 21]⟩])
  (.ite (.t 22)
    (.seq (.reg [
      ⟨none, some 2, true, .mv, [.c (.int .i64 (-1))]⟩])
    .ret)
    .skip))
  (.seq (.reg [
    ⟨none, some 23, false, .mv, [.t 3]⟩,
    ⟨none, some 2, true, .mv, [.t 23]⟩])
  .ret))))

/-- licit/digest.Parse -/
def Ks.digest_Parse : List Nat := [0, 2, 3, 4, 5, 6]
def Rs.digest_Parse : List RV := [.tmp 2, .tmp 3]
def Dl.digest_Parse : List (List Nat) := [[6]]
def Mc.digest_Parse_L0 : MC := (.seq (.seq (.reg [
    ⟨none, some 11, false, .mv, [.t 5]⟩,
    ⟨none, some 12, false, .mv, [.t 0]⟩,
    ⟨none, some 13, false, .len 0, [.t 12]⟩,
    ⟨none, some 14, false, .bin .lss, [.t 11, .t 13]⟩])
  (.ite (.t 14)
    .skip
    (.exit 0)))
  (.seq (.blk 1 (.seq (.reg [
    ⟨none, some 17, false, .mv, [.t 0]⟩,
    ⟨none, some 18, false, .mv, [.t 5]⟩,
    ⟨none, some 19, false, .istr, [.t 17, .t 18]⟩,
    ⟨none, some 20, false, .call Fn.strings_IndexByte, [.c (.str [48, 49, 50, 51, 52, 53, 54, 55, 56, 57, 97, 98, 99, 100, 101, 102]), .t 19]⟩,
    ⟨none, some 6, true, .mv, [.t 20]⟩])
  (.seq (.seq (.reg [
    ⟨none, some 21, false, .mv, [.t 6]⟩,
    ⟨none, some 22, false, .bin .lss, [.t 21, .c (.int .i64 0)]⟩])
  (.ite (.t 22)
    (.seq (.reg [
      ⟨none, some 2, true, .mv, [.c (.str [])]⟩,
      ⟨none, some 3, true, .mv, [.c (.int .i64 4)]⟩])
    .ret)
    .skip))
  (.reg [
    ⟨none, some 23, false, .mv, [.t 4]⟩,
    ⟨none, some 24, false, .mv, [.t 5]⟩,
    ⟨none, some 25, false, .bin .quo, [.t 24, .c (.int .i64 2)]⟩,
    ⟨none, some 26, false, .mv, [.t 4]⟩,
    ⟨none, some 27, false, .mv, [.t 5]⟩,
    ⟨none, some 28, false, .bin .quo, [.t 27, .c (.int .i64 2)]⟩,
    ⟨none, some 29, false, .iadr 1, [.t 26, .t 28]⟩,
    ⟨none, some 30, false, .ld 1 false, [.t 29]⟩,
    ⟨none, some 31, false, .bin .shl, [.t 30, .c (.int .u64 4)]⟩,
    ⟨none, some 32, false, .mv, [.t 6]⟩,
    ⟨none, some 33, false, .conv .u8, [.t 32]⟩,
    ⟨none, some 34, false, .bin .or, [.t 31, .t 33]⟩,
    ⟨none, some 35, false, .iadr 1, [.t 23, .t 25]⟩,
    ⟨none, none, false, .st 1, [.t 35, .t 34]⟩]))))
  (.reg [
    ⟨none, some 15, false, .mv, [.t 5]⟩,
    ⟨none, some 16, false, .bin .add, [.t 15, .c (.int .i64 1)]⟩,
    ⟨none, some 5, true, .mv, [.t 16]⟩])))
def Mc.digest_Parse : MC := (.seq (.reg [
    ⟨none, some 2, true, .mv, [.c (.str [])]⟩,
    ⟨none, some 3, true, .mv, [.c (.int .i64 0)]⟩])
  (.seq (.seq (.reg [
    ⟨none, some 7, false, .mv, [.t 0]⟩,
    ⟨none, some 8, false, .len 0, [.t 7]⟩,
    ⟨none, some 9, false, .bin .neq, [.t 8, .c (.int .i64 64)]⟩])
  (.ite (.t 9)
    (.seq (.reg [
      ⟨none, some 2, true, .mv, [.c (.str [])]⟩,
      ⟨none, some 3, true, .mv, [.c (.int .i64 4)]⟩])
    .ret)
    .skip))
  (.seq (.reg [
    ⟨none, some 10, false, .mksl [.int .u8 0] 1, [.c (.int .i64 32), .c (.int .i64 32)]⟩,
    ⟨none, some 4, true, .mv, [.t 10]⟩])
  (.seq (.seq (.reg [
    ⟨none, some 5, true, .mv, [.c (.int .i64 0)]⟩])
  (.blk 0 (.loop [6] Mc.digest_Parse_L0)))
  (.seq (.reg [
    ⟨none, some 36, false, .mv, [.t 4]⟩,
    ⟨none, some 37, false, .b2s, [.t 36]⟩,
    ⟨none, some 2, true, .mv, [.t 37]⟩,
    ⟨none, some 3, true, .mv, [.c (.int .i64 0)]⟩])
  .ret)))))

/-- licit/licitref16.Number -/
def Ks.licitref16_Number : List Nat := [0, 1, 4, 5, 6, 7]
def Rs.licitref16_Number : List RV := [.tmp 4, .tmp 5]
def Dl.licitref16_Number : List (List Nat) := [[]]
def Mc.licitref16_Number_L0 : MC := (.seq (.seq (.reg [
    ⟨none, some 27, false, .mv, [.t 7]⟩,
    ⟨none, some 28, false, .mv, [.t 0]⟩,
    ⟨none, some 29, false, .len 0, [.t 28]⟩,
    ⟨none, some 30, false, .bin .lss, [.t 27, .t 29]⟩])
  (.ite (.t 30)
    .skip
    (.exit 0)))
  (.seq (.blk 1 (.seq (.seq (.reg [
    ⟨none, some 33, false, .mv, [.t 0]⟩,
    ⟨none, some 34, false, .mv, [.t 7]⟩,
    ⟨none, some 35, false, .istr, [.t 33, .t 34]⟩,
    ⟨none, some 36, false, .bin .lss, [.t 35, .c (.int .u8 48)]⟩,
    ⟨none, some 37, false, .mv, [.t 36]⟩,
    ⟨some (37, false), some 38, false, .mv, [.t 0]⟩,
    ⟨some (37, false), some 39, false, .mv, [.t 7]⟩,
    ⟨some (37, false), some 40, false, .istr, [.t 38, .t 39]⟩,
    ⟨some (37, false), some 41, false, .bin .gtr, [.t 40, .c (.int .u8 57)]⟩,
    ⟨none, some 42, false, .pick, [.t 37, .c (.bool true), .t 41]⟩])
  (.ite (.t 42)
    (.seq (.reg [
      ⟨none, some 4, true, .mv, [.c (.int .i64 0)]⟩,
      ⟨none, some 5, true, .mv, [.c (.bool false)]⟩])
    .ret)
    .skip))
  (.reg [
    ⟨none, some 43, false, .mv, [.t 6]⟩,
    ⟨none, some 44, false, .bin .mul, [.c (.int .i64 10), .t 43]⟩,
    ⟨none, some 45, false, .mv, [.t 0]⟩,
    ⟨none, some 46, false, .mv, [.t 7]⟩,
    ⟨none, some 47, false, .istr, [.t 45, .t 46]⟩,
    ⟨none, some 48, false, .bin .sub, [.t 47, .c (.int .u8 48)]⟩,
    ⟨none, some 49, false, .conv .i64, [.t 48]⟩,
    ⟨none, some 50, false, .bin .add, [.t 44, .t 49]⟩,
    ⟨none, some 6, true, .mv, [.t 50]⟩])))
  (.reg [
    ⟨none, some 31, false, .mv, [.t 7]⟩,
    ⟨none, some 32, false, .bin .add, [.t 31, .c (.int .i64 1)]⟩,
    ⟨none, some 7, true, .mv, [.t 32]⟩])))
def Mc.licitref16_Number : MC := (.seq (.reg [
    ⟨none, some 4, true, .mv, [.c (.int .i64 0)]⟩,
    ⟨none, some 5, true, .mv, [.c (.bool false)]⟩])
  (.seq (.seq (.reg [
    ⟨none, some 8, false, .mv, [.t 0]⟩,
    ⟨none, some 9, false, .len 0, [.t 8]⟩,
    ⟨none, some 10, false, .bin .lss, [.t 9, .c (.int .i64 1)]⟩,
    ⟨none, some 11, false, .mv, [.t 10]⟩,
    ⟨some (11, false), some 12, false, .mv, [.t 0]⟩,
    ⟨some (11, false), some 13, false, .len 0, [.t 12]⟩,
    ⟨some (11, false), some 14, false, .mv, [.t 1]⟩,
    ⟨some (11, false), some 15, false, .bin .gtr, [.t 13, .t 14]⟩,
    ⟨none, some 16, false, .pick, [.t 11, .c (.bool true), .t 15]⟩,
    ⟨none, some 17, false, .mv, [.t 16]⟩,
    ⟨some (17, false), some 18, false, .mv, [.t 0]⟩,
    ⟨some (17, false), some 19, false, .len 0, [.t 18]⟩,
    ⟨some (17, false), some 20, false, .bin .gtr, [.t 19, .c (.int .i64 1)]⟩,
    ⟨some (17, false), some 21, false, .mv, [.t 20]⟩,
    ⟨some (21, true), some 22, false, .mv, [.t 0]⟩,
    ⟨some (21, true), some 23, false, .istr, [.t 22, .c (.int .i64 0)]⟩,
    ⟨some (21, true), some 24, false, .bin .eql, [.t 23, .c (.int .u8 48)]⟩,
    ⟨some (17, false), some 25, false, .pick, [.t 21, .t 24, .c (.bool false)]⟩,
    ⟨none, some 26, false, .pick, [.t 17, .c (.bool true), .t 25]⟩])
  (.ite (.t 26)
    (.seq (.reg [
      ⟨none, some 4, true, .mv, [.c (.int .i64 0)]⟩,
      ⟨none, some 5, true, .mv, [.c (.bool false)]⟩])
    .ret)
    .skip))
  (.seq (.reg [
    ⟨none, some 6, true, .mv, [.c (.int .i64 0)]⟩])
  (.seq (.seq (.reg [
    ⟨none, some 7, true, .mv, [.c (.int .i64 0)]⟩])
  (.blk 0 (.loop [] Mc.licitref16_Number_L0)))
  (.seq (.reg [
    ⟨none, some 51, false, .mv, [.t 6]⟩,
    ⟨none, some 4, true, .mv, [.t 51]⟩,
    ⟨none, some 5, true, .mv, [.c (.bool true)]⟩])
  .ret)))))

/-- licit/licitref17.bytes -/
def Ks.licitref17_bytes : List Nat := [0, 2, 3, 4, 5, 6, 7]
def Rs.licitref17_bytes : List RV := [.tmp 2, .tmp 3]
def Dl.licitref17_bytes : List (List Nat) := [[6, 7]]
def Mc.licitref17_bytes_L0 : MC := (.seq (.seq (.reg [
    ⟨none, some 12, false, .mv, [.t 5]⟩,
    ⟨none, some 13, false, .mv, [.t 0]⟩,
    ⟨none, some 14, false, .len 0, [.t 13]⟩,
    ⟨none, some 15, false, .bin .lss, [.t 12, .t 14]⟩])
  (.ite (.t 15)
    .skip
    (.exit 0)))
  (.seq (.blk 1 (.seq (.rgd [
    ⟨none, some 18, false, .mv, [.t 0]⟩,
    ⟨none, some 19, false, .mv, [.t 5]⟩,
    ⟨none, some 20, false, .istr, [.t 18, .t 19]⟩,
    ⟨none, some 21, false, .call Fn.licitref17_digit, [.t 20]⟩,
    ⟨none, some 22, false, .mv, [.t 0]⟩,
    ⟨none, some 23, false, .mv, [.t 5]⟩,
    ⟨none, some 24, false, .bin .add, [.t 23, .c (.int .i64 1)]⟩,
    ⟨none, some 25, false, .istr, [.t 22, .t 24]⟩,
    ⟨none, some 26, false, .call Fn.licitref17_digit, [.t 25]⟩,
    ⟨none, some 6, true, .mv, [.t 21]⟩,
    ⟨none, some 7, true, .mv, [.t 26]⟩])
  (.seq (.seq (.reg [
    ⟨none, some 27, false, .mv, [.t 6]⟩,
    ⟨none, some 28, false, .bin .lss, [.t 27, .c (.int .i64 0)]⟩,
    ⟨none, some 29, false, .mv, [.t 28]⟩,
    ⟨some (29, false), some 30, false, .mv, [.t 7]⟩,
    ⟨some (29, false), some 31, false, .bin .lss, [.t 30, .c (.int .i64 0)]⟩,
    ⟨none, some 32, false, .pick, [.t 29, .c (.bool true), .t 31]⟩])
  (.ite (.t 32)
    (.seq (.reg [
      ⟨none, some 2, true, .mv, [.c (.str [])]⟩,
      ⟨none, some 3, true, .mv, [.c (.bool false)]⟩])
    .ret)
    .skip))
  (.reg [
    ⟨none, some 33, false, .mv, [.t 4]⟩,
    ⟨none, some 34, false, .mv, [.t 6]⟩,
    ⟨none, some 35, false, .bin .mul, [.c (.int .i64 16), .t 34]⟩,
    ⟨none, some 36, false, .mv, [.t 7]⟩,
    ⟨none, some 37, false, .bin .add, [.t 35, .t 36]⟩,
    ⟨none, some 38, false, .conv .u8, [.t 37]⟩,
    ⟨none, some 39, false, .bsl false 1, [.t 38]⟩,
    ⟨none, some 40, false, .app false 1 1, [.t 33, .t 39]⟩,
    ⟨none, some 4, true, .mv, [.t 40]⟩]))))
  (.reg [
    ⟨none, some 16, false, .mv, [.t 5]⟩,
    ⟨none, some 17, false, .bin .add, [.t 16, .c (.int .i64 2)]⟩,
    ⟨none, some 5, true, .mv, [.t 17]⟩])))
def Mc.licitref17_bytes : MC := (.seq (.reg [
    ⟨none, some 2, true, .mv, [.c (.str [])]⟩,
    ⟨none, some 3, true, .mv, [.c (.bool false)]⟩])
  (.seq (.seq (.reg [
    ⟨none, some 8, false, .mv, [.t 0]⟩,
    ⟨none, some 9, false, .len 0, [.t 8]⟩,
    ⟨none, some 10, false, .bin .neq, [.t 9, .c (.int .i64 64)]⟩])
  (.ite (.t 10)
    (.seq (.reg [
      ⟨none, some 2, true, .mv, [.c (.str [])]⟩,
      ⟨none, some 3, true, .mv, [.c (.bool false)]⟩])
    .ret)
    .skip))
  (.seq (.reg [
    ⟨none, some 11, false, .bsl false 1, []⟩,
    ⟨none, some 4, true, .mv, [.t 11]⟩])
  (.seq (.seq (.reg [
    ⟨none, some 5, true, .mv, [.c (.int .i64 0)]⟩])
  (.blk 0 (.loop [6, 7] Mc.licitref17_bytes_L0)))
  (.seq (.reg [
    ⟨none, some 41, false, .mv, [.t 4]⟩,
    ⟨none, some 42, false, .b2s, [.t 41]⟩,
    ⟨none, some 2, true, .mv, [.t 42]⟩,
    ⟨none, some 3, true, .mv, [.c (.bool true)]⟩])
  .ret)))))

/-- licit/licitref17.digit -/
def Ks.licitref17_digit : List Nat := [0, 2]
def Rs.licitref17_digit : List RV := [.tmp 2]
def Dl.licitref17_digit : List (List Nat) := []
def Mc.licitref17_digit : MC := (.seq (.reg [
    ⟨none, some 2, true, .mv, [.c (.int .i64 0)]⟩])
  (.seq (.seq (.reg [
    ⟨none, some 3, false, .mv, [.t 0]⟩,
    ⟨none, some 4, false, .bin .geq, [.t 3, .c (.int .u8 48)]⟩,
    ⟨none, some 5, false, .mv, [.t 4]⟩,
    ⟨some (5, true), some 6, false, .mv, [.t 0]⟩,
    ⟨some (5, true), some 7, false, .bin .leq, [.t 6, .c (.int .u8 57)]⟩,
    ⟨none, some 8, false, .pick, [.t 5, .t 7, .c (.bool false)]⟩])
  (.ite (.t 8)
    (.seq (.reg [
      ⟨none, some 9, false, .mv, [.t 0]⟩,
      ⟨none, some 10, false, .bin .sub, [.t 9, .c (.int .u8 48)]⟩,
      ⟨none, some 11, false, .conv .i64, [.t 10]⟩,
      ⟨none, some 2, true, .mv, [.t 11]⟩])
    .ret)
    .skip))
  (.seq (.seq (.reg [
    ⟨none, some 12, false, .mv, [.t 0]⟩,
    ⟨none, some 13, false, .bin .geq, [.t 12, .c (.int .u8 97)]⟩,
    ⟨none, some 14, false, .mv, [.t 13]⟩,
    ⟨some (14, true), some 15, false, .mv, [.t 0]⟩,
    ⟨some (14, true), some 16, false, .bin .leq, [.t 15, .c (.int .u8 102)]⟩,
    ⟨none, some 17, false, .pick, [.t 14, .t 16, .c (.bool false)]⟩])
  (.ite (.t 17)
    (.seq (.reg [
      ⟨none, some 18, false, .mv, [.t 0]⟩,
      ⟨none, some 19, false, .bin .sub, [.t 18, .c (.int .u8 97)]⟩,
      ⟨none, some 20, false, .conv .i64, [.t 19]⟩,
      ⟨none, some 21, false, .bin .add, [.t 20, .c (.int .i64 10)]⟩,
      ⟨none, some 2, true, .mv, [.t 21]⟩])
    .ret)
    .skip))
  (.seq (.reg [
    ⟨none, some 2, true, .mv, [.c (.int .i64 (-1))]⟩])
  .ret))))

/-- licit/licitlaw17.RecordChecks -/
def Ks.licitlaw17_RecordChecks : List Nat := [0, 2]
def Rs.licitlaw17_RecordChecks : List RV := [.tmp 2]
def Dl.licitlaw17_RecordChecks : List (List Nat) := []
def Mc.licitlaw17_RecordChecks : MC := (.seq (.reg [
    ⟨none, some 2, true, .mv, [.c (.bool false)]⟩])
  (.seq (.seq (.reg [
    ⟨none, some 3, false, .call Fn.licitlaw17_awake, []⟩,
    ⟨none, some 4, false, .un .not, [.t 3]⟩])
  (.ite (.t 4)
    (.seq (.reg [
      ⟨none, some 2, true, .mv, [.c (.bool false)]⟩])
    .ret)
    .skip))
  (.seq (.reg [
    ⟨none, some 5, false, .mv, [.t 0]⟩,
    ⟨none, some 6, false, .call Fn.licitref17_Few, [.t 5]⟩,
    ⟨none, some 7, false, .un .not, [.t 6]⟩,
    ⟨none, some 8, false, .mv, [.t 7]⟩,
    ⟨some (8, false), some 9, false, .mv, [.t 0]⟩,
    ⟨some (8, false), some 10, false, .call Fn.record_Check, [.t 9]⟩,
    ⟨some (8, false), some 11, false, .mv, [.t 0]⟩,
    ⟨some (8, false), some 12, false, .call Fn.licitref17_Check, [.t 11]⟩,
    ⟨some (8, false), some 13, false, .bin .eql, [.t 10, .t 12]⟩,
    ⟨none, some 14, false, .pick, [.t 8, .c (.bool true), .t 13]⟩,
    ⟨none, some 2, true, .mv, [.t 14]⟩])
  .ret)))

/-- licit/licitref17.Writer -/
def Ks.licitref17_Writer : List Nat := [0, 1, 4]
def Rs.licitref17_Writer : List RV := [.tmp 4]
def Dl.licitref17_Writer : List (List Nat) := []
def Mc.licitref17_Writer : MC := (.seq (.reg [
    ⟨none, some 4, true, .mv, [.c (.int .i64 0)]⟩])
  (.seq (.seq (.reg [
    ⟨none, some 5, false, .mv, [.t 0]⟩,
    ⟨none, some 6, false, .call Fn.licitref17_Check, [.t 5]⟩,
    ⟨none, some 7, false, .bin .neq, [.t 6, .c (.int .i64 0)]⟩])
  (.ite (.t 7)
    (.seq (.reg [
      ⟨none, some 4, true, .mv, [.c (.int .i64 (-1))]⟩])
    .ret)
    .skip))
  (.seq (.reg [
    ⟨none, some 8, false, .mv, [.t 0]⟩,
    ⟨none, some 9, false, .mv, [.t 1]⟩,
    ⟨none, some 10, false, .call Fn.licitref17_wrote, [.t 8, .t 9]⟩,
    ⟨none, some 4, true, .mv, [.t 10]⟩])
  .ret)))

/-- slices.IsSorted[[]string,string] -/
def Ks.slices_IsSorted___string_string_ : List Nat := [0, 2, 3]
def Rs.slices_IsSorted___string_string_ : List RV := [.tmp 2]
def Dl.slices_IsSorted___string_string_ : List (List Nat) := [[]]
def Mc.slices_IsSorted___string_string__L0 : MC := (.seq (.seq (.reg [
    ⟨none, some 7, false, .mv, [.t 3]⟩,
    ⟨none, some 8, false, .bin .gtr, [.t 7, .c (.int .i64 0)]⟩])
  (.ite (.t 8)
    .skip
    (.exit 0)))
  (.seq (.blk 1 (.seq (.rgd [
    ⟨none, some 11, false, .mv, [.t 0]⟩,
    ⟨none, some 12, false, .mv, [.t 3]⟩,
    ⟨none, some 13, false, .iadr 1, [.t 11, .t 12]⟩,
    ⟨none, some 14, false, .ld 1 false, [.t 13]⟩,
    ⟨none, some 15, false, .mv, [.t 0]⟩,
    ⟨none, some 16, false, .mv, [.t 3]⟩,
    ⟨none, some 17, false, .bin .sub, [.t 16, .c (.int .i64 1)]⟩,
    ⟨none, some 18, false, .iadr 1, [.t 15, .t 17]⟩,
    ⟨none, some 19, false, .ld 1 false, [.t 18]⟩,
    ⟨none, some 20, false, .call Fn.cmp_Less_string_, [.t 14, .t 19]⟩])
  (.ite (.t 20)
    (.seq (.reg [
      ⟨none, some 2, true, .mv, [.c (.bool false)]⟩])
    .ret)
    .skip)))
  (.reg [
    ⟨none, some 9, false, .mv, [.t 3]⟩,
    ⟨none, some 10, false, .bin .sub, [.t 9, .c (.int .i64 1)]⟩,
    ⟨none, some 3, true, .mv, [.t 10]⟩])))
def Mc.slices_IsSorted___string_string_ : MC := (.seq (.reg [
    ⟨none, some 2, true, .mv, [.c (.bool false)]⟩])
  (.seq (.seq (.reg [
    ⟨none, some 4, false, .mv, [.t 0]⟩,
    ⟨none, some 5, false, .len 1, [.t 4]⟩,
    ⟨none, some 6, false, .bin .sub, [.t 5, .c (.int .i64 1)]⟩,
    ⟨none, some 3, true, .mv, [.t 6]⟩])
  (.blk 0 (.loop [] Mc.slices_IsSorted___string_string__L0)))
  (.seq (.reg [
    ⟨none, some 2, true, .mv, [.c (.bool true)]⟩])
  .ret)))

/-- slices.Contains[[]string,string] -/
def Ks.slices_Contains___string_string_ : List Nat := [0, 1, 4]
def Rs.slices_Contains___string_string_ : List RV := [.tmp 4]
def Dl.slices_Contains___string_string_ : List (List Nat) := []
def Mc.slices_Contains___string_string_ : MC := (.seq (.reg [
    ⟨none, some 4, true, .mv, [.c (.bool false)]⟩])
  (.seq (.reg [
    ⟨none, some 5, false, .mv, [.t 0]⟩,
    ⟨none, some 6, false, .mv, [.t 1]⟩,
    ⟨none, some 7, false, .call Fn.slices_Index___string_string_, [.t 5, .t 6]⟩,
    ⟨none, some 8, false, .bin .geq, [.t 7, .c (.int .i64 0)]⟩,
    ⟨none, some 4, true, .mv, [.t 8]⟩])
  .ret))

/-- slices.Contains[[]int,int] -/
def Ks.slices_Contains___int_int_ : List Nat := [0, 1, 4]
def Rs.slices_Contains___int_int_ : List RV := [.tmp 4]
def Dl.slices_Contains___int_int_ : List (List Nat) := []
def Mc.slices_Contains___int_int_ : MC := (.seq (.reg [
    ⟨none, some 4, true, .mv, [.c (.bool false)]⟩])
  (.seq (.reg [
    ⟨none, some 5, false, .mv, [.t 0]⟩,
    ⟨none, some 6, false, .mv, [.t 1]⟩,
    ⟨none, some 7, false, .call Fn.slices_Index___int_int_, [.t 5, .t 6]⟩,
    ⟨none, some 8, false, .bin .geq, [.t 7, .c (.int .i64 0)]⟩,
    ⟨none, some 4, true, .mv, [.t 8]⟩])
  .ret))

/-- licit/licitref17.wrote -/
def Ks.licitref17_wrote : List Nat := [0, 1, 4, 5]
def Rs.licitref17_wrote : List RV := [.tmp 4]
def Dl.licitref17_wrote : List (List Nat) := [[]]
def Mc.licitref17_wrote_L0 : MC := (.seq (.seq (.reg [
    ⟨none, some 6, false, .mv, [.t 5]⟩,
    ⟨none, some 7, false, .mv, [.t 0]⟩,
    ⟨none, some 8, false, .len 1, [.t 7]⟩,
    ⟨none, some 9, false, .bin .lss, [.t 6, .t 8]⟩])
  (.ite (.t 9)
    .skip
    (.exit 0)))
  (.seq (.blk 1 (.seq (.reg [
    ⟨none, some 12, false, .mv, [.t 0]⟩,
    ⟨none, some 13, false, .mv, [.t 5]⟩,
    ⟨none, some 14, false, .iadr 6, [.t 12, .t 13]⟩,
    ⟨none, some 15, false, .fadr 4, [.t 14]⟩,
    ⟨none, some 16, false, .fadr 0, [.t 15]⟩,
    ⟨none, some 17, false, .ld 1 false, [.t 16]⟩,
    ⟨none, some 18, false, .mv, [.t 1]⟩,
    ⟨none, some 19, false, .bin .eql, [.t 17, .t 18]⟩])
  (.ite (.t 19)
    (.seq (.reg [
      ⟨none, some 20, false, .mv, [.t 5]⟩,
      ⟨none, some 4, true, .mv, [.t 20]⟩])
    .ret)
    .skip)))
  (.reg [
    ⟨none, some 10, false, .mv, [.t 5]⟩,
    ⟨none, some 11, false, .bin .add, [.t 10, .c (.int .i64 1)]⟩,
    ⟨none, some 5, true, .mv, [.t 11]⟩])))
def Mc.licitref17_wrote : MC := (.seq (.reg [
    ⟨none, some 4, true, .mv, [.c (.int .i64 0)]⟩])
  (.seq (.seq (.reg [
    ⟨none, some 5, true, .mv, [.c (.int .i64 0)]⟩])
  (.blk 0 (.loop [] Mc.licitref17_wrote_L0)))
  (.seq (.reg [
    ⟨none, some 4, true, .mv, [.c (.int .i64 (-1))]⟩])
  .ret)))

/-- slices.Index[[]string,string] -/
def Ks.slices_Index___string_string_ : List Nat := [0, 1, 4, 5, 7, 8]
def Rs.slices_Index___string_string_ : List RV := [.tmp 4]
def Dl.slices_Index___string_string_ : List (List Nat) := [[5]]
def Mc.slices_Index___string_string__L0 : MC := (.seq (.reg [
    ⟨none, some 9, false, .bin .lss, [.t 8, .t 7]⟩])
  (.seq (.ite (.t 9)
    .skip
    (.exit 0))
  (.seq (.blk 1 (.seq (.reg [
    ⟨none, some 10, false, .mv, [.t 8]⟩,
    ⟨none, some 5, true, .mv, [.t 10]⟩])
  (.seq (.reg [
    ⟨none, some 11, false, .mv, [.t 1]⟩,
    ⟨none, some 12, false, .mv, [.t 0]⟩,
    ⟨none, some 13, false, .mv, [.t 5]⟩,
    ⟨none, some 14, false, .iadr 1, [.t 12, .t 13]⟩,
    ⟨none, some 15, false, .ld 1 false, [.t 14]⟩,
    ⟨none, some 16, false, .bin .eql, [.t 11, .t 15]⟩])
  (.ite (.t 16)
    (.seq (.reg [
      ⟨none, some 17, false, .mv, [.t 5]⟩,
      ⟨none, some 4, true, .mv, [.t 17]⟩])
    .ret)
    .skip))))
  (.reg [
    ⟨none, some 18, false, .bin .add, [.t 8, .c (.int .i64 1)]⟩,
    ⟨none, some 8, true, .mv, [.t 18]⟩]))))
def Mc.slices_Index___string_string_ : MC := (.seq (.reg [
    ⟨none, some 4, true, .mv, [.c (.int .i64 0)]⟩])
  (.seq (.seq (.reg [
    ⟨none, some 6, false, .mv, [.t 0]⟩,
    ⟨none, some 7, true, .len 1, [.t 6]⟩,
    ⟨none, some 8, true, .mv, [.c (.int .i64 0)]⟩])
  (.blk 0 (.loop [5] Mc.slices_Index___string_string__L0)))
  (.seq (.reg [
    ⟨none, some 4, true, .mv, [.c (.int .i64 (-1))]⟩])
  .ret)))

/-- slices.Index[[]int,int] -/
def Ks.slices_Index___int_int_ : List Nat := [0, 1, 4, 5, 7, 8]
def Rs.slices_Index___int_int_ : List RV := [.tmp 4]
def Dl.slices_Index___int_int_ : List (List Nat) := [[5]]
def Mc.slices_Index___int_int__L0 : MC := (.seq (.reg [
    ⟨none, some 9, false, .bin .lss, [.t 8, .t 7]⟩])
  (.seq (.ite (.t 9)
    .skip
    (.exit 0))
  (.seq (.blk 1 (.seq (.reg [
    ⟨none, some 10, false, .mv, [.t 8]⟩,
    ⟨none, some 5, true, .mv, [.t 10]⟩])
  (.seq (.reg [
    ⟨none, some 11, false, .mv, [.t 1]⟩,
    ⟨none, some 12, false, .mv, [.t 0]⟩,
    ⟨none, some 13, false, .mv, [.t 5]⟩,
    ⟨none, some 14, false, .iadr 1, [.t 12, .t 13]⟩,
    ⟨none, some 15, false, .ld 1 false, [.t 14]⟩,
    ⟨none, some 16, false, .bin .eql, [.t 11, .t 15]⟩])
  (.ite (.t 16)
    (.seq (.reg [
      ⟨none, some 17, false, .mv, [.t 5]⟩,
      ⟨none, some 4, true, .mv, [.t 17]⟩])
    .ret)
    .skip))))
  (.reg [
    ⟨none, some 18, false, .bin .add, [.t 8, .c (.int .i64 1)]⟩,
    ⟨none, some 8, true, .mv, [.t 18]⟩]))))
def Mc.slices_Index___int_int_ : MC := (.seq (.reg [
    ⟨none, some 4, true, .mv, [.c (.int .i64 0)]⟩])
  (.seq (.seq (.reg [
    ⟨none, some 6, false, .mv, [.t 0]⟩,
    ⟨none, some 7, true, .len 1, [.t 6]⟩,
    ⟨none, some 8, true, .mv, [.c (.int .i64 0)]⟩])
  (.blk 0 (.loop [5] Mc.slices_Index___int_int__L0)))
  (.seq (.reg [
    ⟨none, some 4, true, .mv, [.c (.int .i64 (-1))]⟩])
  .ret)))
end Go.Proofs.YtmjdgpiofhildaaGreatDoor
