/-
  The functions of the seat in the evaluator's syntax (printed by a program of mine; checked in a text that follows).
-/
import Derived.Test.YtcephlgejkngiaaGreatDoorCoa
namespace Go.Proofs.YtcephlgejkngiaaGreatDoor.Co
open Go.Evl

def c_priority_reader_next : CF := ⟨[.tmp 2],
  (.seq (.reg false [
tq 2 (.mv (.k (.d (.str []))))] [2])
(.seq (.seq (.reg false [
tq 4 (.mv (.t 0)),
tq 5 (.nilCheck (.t 4)),
fa 6 0 5,
ld 7 6,
tq 8 (.len .slc (.t 7)),
tq 9 (.bin .eql (.t 8) (kq 0))] [4, 5, 6, 7, 8])
(.cond (.t 9) (.seq (.reg false [
tq 2 (.mv (.k (.d (.str []))))] [])
.ret)
 .skip))
(.seq (.reg false [
tq 10 (.mv (.t 0)),
tq 11 (.nilCheck (.t 10)),
fa 12 0 11,
ld 13 12,
tq 14 (.idxAddr 1 (.t 13) (kq 0)),
ld 15 14,
tq 3 (.mv (.t 15))] [10, 11, 12, 13, 14, 15])
(.seq (.reg false [
tq 16 (.mv (.t 0)),
tq 17 (.mv (.t 0)),
tq 18 (.nilCheck (.t 17)),
fa 19 0 18,
ld 20 19,
tq 21 (.slice 1 (.t 20) (some (kq 1)) none none),
tq 22 (.nilCheck (.t 16)),
fa 23 0 22,
⟨none, none, .store 1 (.t 23) (.t 21)⟩] [0, 16, 17, 18, 19, 20, 21, 22, 23])
(.seq (.reg false [
tq 24 (.mv (.t 3)),
tq 2 (.mv (.t 24))] [3, 24])
.ret)))))⟩

def c_priority_reader_class : CF := ⟨[.cell 2 (some 3), .tmp 3],
  (.seq (.reg false [
tq 2 (.alloc ty_priority_Class [.z (.str []), .z (.list 0 []), .z (.list 0 [])]),
tq 3 (.mv (.k (.d (.bool false))))] [3])
(.seq (.reg false [
tq 7 (.mv (.t 0)),
tq 8 (.mkFunc n_priority_reader_next [.t 7] []),
tq 4 (.mv (.t 8))] [7, 8])
(.seq (.reg false [
tq 9 (.mv (.t 4)),
tq 10 (.call true true (.t 9) []),
tq 11 (.build [.z (.str []), .z (.list 0 []), .z (.list 0 [])] [(0, 1, .t 10)]),
tq 5 (.alloc ty_priority_Class [.z (.str []), .z (.list 0 []), .z (.list 0 [])]),
⟨none, none, .store 3 (.t 5) (.t 11)⟩] [9, 10, 11])
(.seq (.reg false [
fa 12 0 5,
ld 13 12,
tq 14 (.bin .neq (.t 13) (.k (.d (.str [])))),
tq 6 (.mv (.t 14))] [12, 13, 14])
(.seq (.seq (.reg false [
tq 15 (.mv (.t 6)),
tq 16 (.mv (.t 15)),
⟨some 17, (some (16, true)), .mv (.t 0)⟩,
⟨some 18, (some (16, true)), .nilCheck (.t 17)⟩,
⟨some 19, (some (16, true)), .fieldAddr 0 (.t 18)⟩,
⟨some 20, (some (16, true)), .load none (.t 19)⟩,
⟨some 21, (some (16, true)), .len .slc (.t 20)⟩,
⟨some 22, (some (16, true)), .bin .gtr (.t 21) (kq 0)⟩,
tq 23 (.pick (.t 16) (.t 22) (.k (.d (.bool false)))),
tq 24 (.mv (.t 23)),
⟨some 25, (some (24, true)), .mv (.t 0)⟩,
⟨some 26, (some (24, true)), .nilCheck (.t 25)⟩,
⟨some 27, (some (24, true)), .fieldAddr 0 (.t 26)⟩,
⟨some 28, (some (24, true)), .load none (.t 27)⟩,
⟨some 29, (some (24, true)), .idxAddr 1 (.t 28) (kq 0)⟩,
⟨some 30, (some (24, true)), .load none (.t 29)⟩,
⟨some 31, (some (24, true)), .bin .eql (.t 30) (.k (.d (.str [119, 104, 101, 110])))⟩,
tq 32 (.pick (.t 24) (.t 31) (.k (.d (.bool false))))] [15, 16, 17, 18, 19, 20, 21, 22, 23, 24, 25, 26, 27, 28, 29, 30, 31])
(.cond (.t 32) (.seq (.reg false [
tq 33 (.mv (.t 4)),
tq 34 (.call true true (.t 33) [])] [33, 34])
(.reg false [
tq 36 (.mv (.t 0)),
tq 37 (.call true true (.k (.fn n_priority_all_priority_Test [] [])) [.t 36, .k (.d (.str [98, 121])), .k (.fn n_priority_test [] [])]),
tq 35 (.mv (.t 37)),
tq 38 (.extract (.t 35) 0),
tq 39 (.extract (.t 35) 1),
fa 40 1 5,
⟨none, none, .store 1 (.t 40) (.t 38)⟩,
tq 6 (.mv (.t 39))] [35, 36, 37, 38, 39, 40]))
 .skip))
(.seq (.seq (.reg false [
tq 41 (.mv (.t 6)),
tq 42 (.un .not (.t 41)),
tq 43 (.mv (.t 42)),
⟨some 44, (some (43, false)), .mv (.t 0)⟩,
⟨some 45, (some (43, false)), .nilCheck (.t 44)⟩,
⟨some 46, (some (43, false)), .fieldAddr 0 (.t 45)⟩,
⟨some 47, (some (43, false)), .load none (.t 46)⟩,
⟨some 48, (some (43, false)), .len .slc (.t 47)⟩,
⟨some 49, (some (43, false)), .bin .eql (.t 48) (kq 0)⟩,
tq 50 (.pick (.t 43) (.k (.d (.bool true))) (.t 49))] [41, 42, 43, 44, 45, 46, 47, 48, 49])
(.cond (.t 50) (.seq (.reg false [
tq 51 (.load (some 3) (.t 5)),
tq 52 (.mv (.t 6)),
⟨none, none, .store 3 (.t 2) (.t 51)⟩,
tq 3 (.mv (.t 52))] [5, 6, 51, 52])
.ret)
 .skip))
(.seq (.seq (.reg false [
tq 53 (.mv (.t 4)),
tq 54 (.call true true (.t 53) []),
tq 55 (.bin .neq (.t 54) (.k (.d (.str [98, 121]))))] [4, 53, 54])
(.cond (.t 55) (.seq (.reg false [
tq 56 (.build [.z (.str []), .z (.list 0 []), .z (.list 0 [])] []),
⟨none, none, .store 3 (.t 2) (.t 56)⟩,
tq 3 (.mv (.k (.d (.bool false))))] [56])
.ret)
 .skip))
(.seq (.reg false [
tq 58 (.mv (.t 0)),
tq 59 (.call true true (.k (.fn n_priority_all_priority_Key [] [])) [.t 58, .k (.d (.str [])), .k (.fn n_priority_key [] [])]),
tq 57 (.mv (.t 59)),
tq 60 (.extract (.t 57) 0),
tq 61 (.extract (.t 57) 1),
fa 62 2 5,
⟨none, none, .store 1 (.t 62) (.t 60)⟩,
tq 6 (.mv (.t 61))] [0, 57, 58, 59, 60, 61, 62])
(.seq (.reg false [
tq 63 (.load (some 3) (.t 5)),
tq 64 (.mv (.t 6)),
⟨none, none, .store 3 (.t 2) (.t 63)⟩,
tq 3 (.mv (.t 64))] [5, 6, 63, 64])
.ret)))))))))⟩

def b_priority_reader_pool_1 : C :=
  (.seq (.reg false [
tq 36 (.bin .lss (.t 35) (kq 3))] [])
(.seq (.cond (.t 36) .skip
 (.exit 0))
(.seq (.block 1 (.seq (.reg false [
tq 37 (.mv (.t 35)),
tq 7 (.mv (.t 37))] [37])
(.seq (.reg false [
tq 39 (.mv (.t 0)),
tq 40 (.nilCheck (.t 39)),
fa 41 0 40,
ld 42 41,
tq 43 (.mv (.t 7)),
tq 44 (.bin .mul (kq 2) (.t 43)),
tq 45 (.idxAddr 1 (.t 42) (.t 44)),
ld 46 45,
tq 47 (.call false true (.k (.fn n_priority_integer [] [])) [.t 46]),
tq 38 (.mv (.t 47)),
tq 48 (.extract (.t 38) 0),
tq 49 (.extract (.t 38) 1),
tq 8 (.mv (.t 48)),
tq 9 (.mv (.t 49))] [38, 39, 40, 41, 42, 43, 44, 45, 46, 47, 48, 49])
(.seq (.seq (.reg false [
tq 50 (.mv (.t 9)),
tq 51 (.un .not (.t 50))] [9, 50])
(.cond (.t 51) (.seq (.reg false [
tq 52 (.build [.own ⟨true, ty_priority_Class, 3, 64⟩, .z (.int .i64 0), .z (.int .i64 0), .z (.int .i64 0)] []),
⟨none, none, .store 4 (.t 4) (.t 52)⟩,
tq 5 (.mv (.k (.d (.bool false))))] [52])
.ret)
 .skip))
(.reg false [
tq 53 (.mv (.t 7)),
tq 54 (.mv (.t 8)),
tq 55 (.idxAddrA 3 1 (.t 6) (.t 53)),
⟨none, none, .store 1 (.t 55) (.t 54)⟩] [7, 8, 53, 54, 55])))))
(.reg false [
tq 56 (.bin .add (.t 35) (kq 1)),
tq 35 (.mv (.t 56))] [56]))))

def c_priority_reader_pool : CF := ⟨[.cell 4 (some 4), .tmp 5],
  (.seq (.reg false [
tq 3 (.box ty_priority_Program (.t 1)),
tq 4 (.alloc ty_priority_Program [.own ⟨true, ty_priority_Class, 3, 64⟩, .z (.int .i64 0), .z (.int .i64 0), .z (.int .i64 0)]),
tq 5 (.mv (.k (.d (.bool false))))] [1, 5])
(.seq (.seq (.reg false [
tq 10 (.mv (.t 0)),
tq 11 (.nilCheck (.t 10)),
fa 12 0 11,
ld 13 12,
tq 14 (.len .slc (.t 13)),
tq 15 (.bin .neq (.t 14) (kq 5)),
tq 16 (.mv (.t 15)),
⟨some 17, (some (16, false)), .mv (.t 0)⟩,
⟨some 18, (some (16, false)), .nilCheck (.t 17)⟩,
⟨some 19, (some (16, false)), .fieldAddr 0 (.t 18)⟩,
⟨some 20, (some (16, false)), .load none (.t 19)⟩,
⟨some 21, (some (16, false)), .idxAddr 1 (.t 20) (kq 1)⟩,
⟨some 22, (some (16, false)), .load none (.t 21)⟩,
⟨some 23, (some (16, false)), .bin .neq (.t 22) (.k (.d (.str [115, 104, 97, 114, 101])))⟩,
tq 24 (.pick (.t 16) (.k (.d (.bool true))) (.t 23)),
tq 25 (.mv (.t 24)),
⟨some 26, (some (25, false)), .mv (.t 0)⟩,
⟨some 27, (some (25, false)), .nilCheck (.t 26)⟩,
⟨some 28, (some (25, false)), .fieldAddr 0 (.t 27)⟩,
⟨some 29, (some (25, false)), .load none (.t 28)⟩,
⟨some 30, (some (25, false)), .idxAddr 1 (.t 29) (kq 3)⟩,
⟨some 31, (some (25, false)), .load none (.t 30)⟩,
⟨some 32, (some (25, false)), .bin .neq (.t 31) (.k (.d (.str [111, 102])))⟩,
tq 33 (.pick (.t 25) (.k (.d (.bool true))) (.t 32))] [10, 11, 12, 13, 14, 15, 16, 17, 18, 19, 20, 21, 22, 23, 24, 25, 26, 27, 28, 29, 30, 31, 32])
(.cond (.t 33) (.seq (.reg false [
tq 34 (.build [.own ⟨true, ty_priority_Class, 3, 64⟩, .z (.int .i64 0), .z (.int .i64 0), .z (.int .i64 0)] []),
⟨none, none, .store 4 (.t 4) (.t 34)⟩,
tq 5 (.mv (.k (.d (.bool false))))] [34])
.ret)
 .skip))
(.seq (.reg false [
tq 6 (.alloc ty_3_int [.z (.int .i64 0), .z (.int .i64 0), .z (.int .i64 0)])] [])
(.seq (.seq (.reg false [
tq 35 (.mv (kq 0))] [])
(.block 0 (.loop [0, 3, 4, 6, 35] b_priority_reader_pool_1)))
(.seq (.reg true [
tq 57 (.idxAddrA 3 1 (.t 6) (kq 0)),
ld 58 57,
tq 59 (.idxAddrA 3 1 (.t 6) (kq 1)),
ld 60 59,
tq 61 (.idxAddrA 3 1 (.t 6) (kq 2)),
ld 62 61,
fa 63 1 3,
⟨none, none, .storeR 1 (.t 63) (.t 58) [6]⟩,
fa 64 3 3,
⟨none, none, .storeR 1 (.t 64) (.t 60) [6]⟩,
fa 65 2 3,
⟨none, none, .store 1 (.t 65) (.t 62)⟩] [6, 57, 58, 59, 60, 61, 62, 63, 64, 65])
(.seq (.reg false [
tq 66 (.load (some 4) (.t 3)),
⟨none, none, .store 4 (.t 4) (.t 66)⟩,
tq 5 (.mv (.k (.d (.bool true))))] [3, 66])
.ret))))))⟩

def b_ref05_split_1 : C :=
  (.seq (.seq (.reg false [
tq 6 (.mv (.t 5)),
tq 7 (.mv (.t 0)),
tq 8 (.len .str (.t 7)),
tq 9 (.bin .leq (.t 6) (.t 8))] [6, 7, 8])
(.cond (.t 9) .skip
 (.exit 0)))
(.seq (.block 1 (.seq (.reg false [
tq 12 (.mv (.t 5)),
tq 13 (.mv (.t 0)),
tq 14 (.len .str (.t 13)),
tq 15 (.bin .eql (.t 12) (.t 14)),
tq 16 (.mv (.t 15)),
⟨some 17, (some (16, false)), .mv (.t 0)⟩,
⟨some 18, (some (16, false)), .mv (.t 5)⟩,
⟨some 19, (some (16, false)), .idxS (.t 17) (.t 18)⟩,
⟨some 20, (some (16, false)), .bin .eql (.t 19) (.k (.d (.int .u8 32)))⟩,
tq 21 (.pick (.t 16) (.k (.d (.bool true))) (.t 20))] [12, 13, 14, 15, 16, 17, 18, 19, 20])
(.cond (.t 21) (.seq (.reg false [
tq 22 (.mv (.t 3)),
tq 23 (.mv (.t 0)),
tq 24 (.mv (.t 4)),
tq 25 (.mv (.t 5)),
tq 26 (.sliceS (.t 23) (some (.t 24)) (some (.t 25))),
tq 27 (.mkList 1 1 [.t 26]),
tq 28 (.append ⟨false, ty_string, 1, 16⟩ (.t 22) (.t 27)),
tq 3 (.mv (.t 28))] [4, 22, 23, 24, 25, 26, 27, 28])
(.reg false [
tq 29 (.mv (.t 5)),
tq 30 (.bin .add (.t 29) (kq 1)),
tq 4 (.mv (.t 30))] [29, 30]))
 .skip)))
(.reg false [
tq 10 (.mv (.t 5)),
tq 11 (.bin .add (.t 10) (kq 1)),
tq 5 (.mv (.t 11))] [10, 11])))

def c_ref05_split : CF := ⟨[.tmp 2],
  (.seq (.reg false [
tq 2 (.ownNil ⟨false, ty_string, 1, 16⟩)] [2])
(.seq (.reg false [
tq 3 (.ownNil ⟨false, ty_string, 1, 16⟩)] [])
(.seq (.reg false [
tq 4 (.mv (kq 0))] [])
(.seq (.seq (.reg false [
tq 5 (.mv (kq 0))] [])
(.block 0 (.loop [0, 3, 4, 5] b_ref05_split_1)))
(.seq (.reg false [
tq 31 (.mv (.t 3)),
tq 2 (.mv (.t 31))] [3, 31])
.ret)))))⟩

def b_ref01_Number_1 : C :=
  (.seq (.seq (.reg false [
tq 23 (.mv (.t 4)),
tq 24 (.mv (.t 0)),
tq 25 (.len .str (.t 24)),
tq 26 (.bin .lss (.t 23) (.t 25))] [23, 24, 25])
(.cond (.t 26) .skip
 (.exit 0)))
(.seq (.block 1 (.seq (.seq (.reg false [
tq 29 (.mv (.t 0)),
tq 30 (.mv (.t 4)),
tq 31 (.idxS (.t 29) (.t 30)),
tq 32 (.bin .lss (.t 31) (.k (.d (.int .u8 48)))),
tq 33 (.mv (.t 32)),
⟨some 34, (some (33, false)), .mv (.t 0)⟩,
⟨some 35, (some (33, false)), .mv (.t 4)⟩,
⟨some 36, (some (33, false)), .idxS (.t 34) (.t 35)⟩,
⟨some 37, (some (33, false)), .bin .gtr (.t 36) (.k (.d (.int .u8 57)))⟩,
tq 38 (.pick (.t 33) (.k (.d (.bool true))) (.t 37))] [29, 30, 31, 32, 33, 34, 35, 36, 37])
(.cond (.t 38) (.seq (.reg false [
tq 2 (.mv (kq (-1)))] [])
.ret)
 .skip))
(.reg false [
tq 39 (.mv (.t 3)),
tq 40 (.bin .mul (kq 10) (.t 39)),
tq 41 (.mv (.t 0)),
tq 42 (.mv (.t 4)),
tq 43 (.idxS (.t 41) (.t 42)),
tq 44 (.bin .sub (.t 43) (.k (.d (.int .u8 48)))),
tq 45 (.conv .i64 (.t 44)),
tq 46 (.bin .add (.t 40) (.t 45)),
tq 3 (.mv (.t 46))] [39, 40, 41, 42, 43, 44, 45, 46])))
(.reg false [
tq 27 (.mv (.t 4)),
tq 28 (.bin .add (.t 27) (kq 1)),
tq 4 (.mv (.t 28))] [27, 28])))

def c_ref01_Number : CF := ⟨[.tmp 2],
  (.seq (.reg false [
tq 2 (.mv (kq 0))] [2])
(.seq (.seq (.reg false [
tq 5 (.mv (.t 0)),
tq 6 (.len .str (.t 5)),
tq 7 (.bin .eql (.t 6) (kq 0)),
tq 8 (.mv (.t 7)),
⟨some 9, (some (8, false)), .mv (.t 0)⟩,
⟨some 10, (some (8, false)), .len .str (.t 9)⟩,
⟨some 11, (some (8, false)), .bin .gtr (.t 10) (kq 9)⟩,
tq 12 (.pick (.t 8) (.k (.d (.bool true))) (.t 11)),
tq 13 (.mv (.t 12)),
⟨some 14, (some (13, false)), .mv (.t 0)⟩,
⟨some 15, (some (13, false)), .len .str (.t 14)⟩,
⟨some 16, (some (13, false)), .bin .gtr (.t 15) (kq 1)⟩,
⟨some 17, (some (13, false)), .mv (.t 16)⟩,
⟨some 18, (some (17, true)), .mv (.t 0)⟩,
⟨some 19, (some (17, true)), .idxS (.t 18) (kq 0)⟩,
⟨some 20, (some (17, true)), .bin .eql (.t 19) (.k (.d (.int .u8 48)))⟩,
⟨some 21, (some (13, false)), .pick (.t 17) (.t 20) (.k (.d (.bool false)))⟩,
tq 22 (.pick (.t 13) (.k (.d (.bool true))) (.t 21))] [5, 6, 7, 8, 9, 10, 11, 12, 13, 14, 15, 16, 17, 18, 19, 20, 21])
(.cond (.t 22) (.seq (.reg false [
tq 2 (.mv (kq (-1)))] [])
.ret)
 .skip))
(.seq (.reg false [
tq 3 (.mv (kq 0))] [])
(.seq (.seq (.reg false [
tq 4 (.mv (kq 0))] [])
(.block 0 (.loop [0, 3, 4] b_ref01_Number_1)))
(.seq (.reg false [
tq 47 (.mv (.t 3)),
tq 2 (.mv (.t 47))] [3, 47])
.ret)))))⟩

def b_ref05_readTest_1 : C :=
  (.seq (.seq (.reg false [
tq 6 (.mv (.t 4)),
tq 7 (.mv (.t 0)),
tq 8 (.len .str (.t 7)),
tq 9 (.bin .lss (.t 6) (.t 8))] [6, 7, 8])
(.cond (.t 9) .skip
 (.exit 0)))
(.seq (.block 1 (.seq (.reg false [
tq 12 (.mv (.t 0)),
tq 13 (.mv (.t 4)),
tq 14 (.idxS (.t 12) (.t 13)),
tq 15 (.bin .eql (.t 14) (.k (.d (.int .u8 61)))),
tq 16 (.mv (.t 15)),
⟨some 17, (some (16, false)), .mv (.t 0)⟩,
⟨some 18, (some (16, false)), .mv (.t 4)⟩,
⟨some 19, (some (16, false)), .idxS (.t 17) (.t 18)⟩,
⟨some 20, (some (16, false)), .bin .eql (.t 19) (.k (.d (.int .u8 60)))⟩,
tq 21 (.pick (.t 16) (.k (.d (.bool true))) (.t 20)),
tq 22 (.mv (.t 21)),
⟨some 23, (some (22, false)), .mv (.t 0)⟩,
⟨some 24, (some (22, false)), .mv (.t 4)⟩,
⟨some 25, (some (22, false)), .idxS (.t 23) (.t 24)⟩,
⟨some 26, (some (22, false)), .bin .eql (.t 25) (.k (.d (.int .u8 62)))⟩,
tq 27 (.pick (.t 22) (.k (.d (.bool true))) (.t 26))] [12, 13, 14, 15, 16, 17, 18, 19, 20, 21, 22, 23, 24, 25, 26])
(.cond (.t 27) (.seq (.reg false [
tq 28 (.mv (.t 0)),
tq 29 (.mv (.t 4)),
tq 30 (.bin .add (.t 29) (kq 1)),
tq 31 (.sliceS (.t 28) (some (.t 30)) none),
tq 32 (.call false true (.k (.fn n_ref01_Number [] [])) [.t 31]),
tq 5 (.mv (.t 32))] [28, 29, 30, 31, 32])
(.seq (.reg true [
tq 33 (.mv (.t 0)),
tq 34 (.mv (.t 4)),
tq 35 (.sliceS (.t 33) none (some (.t 34))),
tq 36 (.mv (.t 0)),
tq 37 (.mv (.t 4)),
tq 38 (.mv (.t 4)),
tq 39 (.bin .add (.t 38) (kq 1)),
tq 40 (.sliceS (.t 36) (some (.t 37)) (some (.t 39))),
tq 41 (.mv (.t 5)),
tq 42 (.build [.z (.str []), .z (.str []), .z (.int .i64 0)] [(0, 1, .t 35), (1, 1, .t 40), (2, 1, .t 41)]),
tq 43 (.mv (.t 5)),
tq 44 (.bin .geq (.t 43) (kq 0)),
⟨none, none, .store 3 (.t 2) (.t 42)⟩,
tq 3 (.mv (.t 44))] [0, 4, 5, 33, 34, 35, 36, 37, 38, 39, 40, 41, 42, 43, 44])
.ret))
 .skip)))
(.reg false [
tq 10 (.mv (.t 4)),
tq 11 (.bin .add (.t 10) (kq 1)),
tq 4 (.mv (.t 11))] [10, 11])))

def c_ref05_readTest : CF := ⟨[.cell 2 (some 3), .tmp 3],
  (.seq (.reg false [
tq 2 (.alloc ty_turnroundref05_Test [.z (.str []), .z (.str []), .z (.int .i64 0)]),
tq 3 (.mv (.k (.d (.bool false))))] [3])
(.seq (.seq (.reg false [
tq 4 (.mv (kq 0))] [])
(.block 0 (.loop [0, 2, 4] b_ref05_readTest_1)))
(.seq (.reg false [
tq 45 (.build [.z (.str []), .z (.str []), .z (.int .i64 0)] []),
⟨none, none, .store 3 (.t 2) (.t 45)⟩,
tq 3 (.mv (.k (.d (.bool false))))] [45])
.ret)))⟩

def c_ref05_readKey : CF := ⟨[.cell 2 (some 2), .tmp 3],
  (.seq (.reg false [
tq 2 (.alloc ty_turnroundref05_Key [.z (.str []), .z (.bool false)]),
tq 3 (.mv (.k (.d (.bool false))))] [3])
(.seq (.reg false [
tq 5 (.mv (.t 0)),
tq 6 (.mv (.t 0)),
tq 7 (.len .str (.t 6)),
tq 8 (.bin .sub (.t 7) (kq 1)),
tq 9 (.idxS (.t 5) (.t 8)),
tq 4 (.mv (.t 9))] [5, 6, 7, 8, 9])
(.seq (.reg false [
tq 10 (.mv (.t 0)),
tq 11 (.mv (.t 0)),
tq 12 (.len .str (.t 11)),
tq 13 (.bin .sub (.t 12) (kq 1)),
tq 14 (.sliceS (.t 10) none (some (.t 13))),
tq 15 (.mv (.t 4)),
tq 16 (.bin .eql (.t 15) (.k (.d (.int .u8 45)))),
tq 17 (.build [.z (.str []), .z (.bool false)] [(0, 1, .t 14), (1, 1, .t 16)]),
tq 18 (.mv (.t 4)),
tq 19 (.bin .eql (.t 18) (.k (.d (.int .u8 43)))),
tq 20 (.mv (.t 19)),
⟨some 21, (some (20, false)), .mv (.t 4)⟩,
⟨some 22, (some (20, false)), .bin .eql (.t 21) (.k (.d (.int .u8 45)))⟩,
tq 23 (.pick (.t 20) (.k (.d (.bool true))) (.t 22)),
⟨none, none, .store 2 (.t 2) (.t 17)⟩,
tq 3 (.mv (.t 23))] [0, 4, 10, 11, 12, 13, 14, 15, 16, 17, 18, 19, 20, 21, 22, 23])
.ret)))⟩

def c_priority_Program_keys : CF := ⟨[.tmp 4],
  (.seq (.reg false [
tq 2 (.box ty_priority_Program (.t 0)),
tq 3 (.box ty_int (.t 1)),
tq 4 (.mv (.k (.d (.nilf))))] [0, 1, 4])
(.seq (.reg false [
tq 5 (.mkFunc n_priority_Program_keys_1 [] [.t 3, .t 2]),
tq 4 (.mv (.t 5))] [2, 3, 5])
.ret))⟩

def c_ref05_bit : CF := ⟨[.tmp 2],
  (.seq (.reg false [
tq 2 (.mv (kq 0))] [2])
(.seq (.seq (.reg false [
tq 3 (.mv (.t 0))] [0])
(.cond (.t 3) (.seq (.reg false [
tq 2 (.mv (kq 1))] [])
.ret)
 .skip))
(.seq (.reg false [
tq 2 (.mv (kq 0))] [])
.ret)))⟩

def b_priority_each_priority_Claim_1 : C :=
  (.seq (.reg false [
tq 11 (.bin .lss (.t 10) (.t 9))] [])
(.seq (.cond (.t 11) .skip
 (.exit 0))
(.seq (.block 1 (.seq (.reg false [
tq 12 (.mv (.t 10)),
tq 13 (.idxAddr 18 (.t 8) (.t 10)),
tq 14 (.load (some 18) (.t 13)),
tq 6 (.alloc ty_priority_Claim [.z (.str []), .z (.str []), .z (.str []), .z (.str []), .z (.str []), .z (.str []), .z (.int .i64 0), .z (.int .i64 0), .z (.int .i64 0), .z (.int .i64 0), .z (.int .i64 0), .z (.int .i64 0), .z (.int .i64 0), .z (.bool false), .z (.bool false), .z (.bool false), .z (.bool false), .z (.int .i64 0)]),
tq 5 (.mv (.t 12)),
⟨none, none, .store 18 (.t 6) (.t 14)⟩] [12, 13, 14])
(.seq (.reg true [
tq 15 (.mv (.t 1)),
tq 16 (.mv (.t 0)),
tq 17 (.mv (.t 5)),
tq 18 (.slice 18 (.t 16) none (some (.t 17)) none),
tq 19 (.load (some 18) (.t 6)),
tq 20 (.call false true (.t 15) [.t 18, .t 19]),
tq 7 (.mv (.t 20))] [5, 6, 15, 16, 17, 18, 19, 20])
(.seq (.reg false [
tq 21 (.mv (.t 7)),
tq 22 (.bin .neq (.t 21) (kq 0))] [21])
(.cond (.t 22) (.seq (.reg false [
tq 23 (.mv (.t 7)),
tq 4 (.mv (.t 23))] [7, 23])
.ret)
 .skip)))))
(.reg false [
tq 24 (.bin .add (.t 10) (kq 1)),
tq 10 (.mv (.t 24))] [24]))))

def c_priority_each_priority_Claim : CF := ⟨[.tmp 4],
  (.seq (.reg false [
tq 4 (.mv (kq 0))] [4])
(.seq (.seq (.reg false [
tq 8 (.mv (.t 0)),
tq 9 (.len .slc (.t 8)),
tq 10 (.mv (kq 0))] [])
(.block 0 (.loop [0, 1, 8, 9, 10] b_priority_each_priority_Claim_1)))
(.seq (.reg false [
tq 4 (.mv (kq 0))] [])
.ret)))⟩

def c_priority_checkClaims_1 : CF := ⟨[.tmp 4],
  (.seq (.reg false [
tq 3 (.box ty_priority_Claim (.t 1)),
tq 4 (.mv (kq 0))] [1, 4])
(.seq (.reg false [
tq 6 (.mv (.t 0)),
tq 7 (.mkFunc n_priority_checkClaims_1_1 [] [.t 3]),
tq 8 (.call true true (.k (.fn n_slices_ContainsFunc_Lpriority_Claim_priority_Claim [] [])) [.t 6, .t 7]),
tq 5 (.mv (.t 8))] [0, 6, 7, 8])
(.seq (.reg false [
tq 9 (.load (some 18) (.t 3)),
tq 10 (.call false true (.k (.fn n_priority_CheckClaim [] [])) [.t 9]),
tq 11 (.mv (.t 5)),
tq 12 (.call false true (.k (.fn n_priority_when [] [])) [.t 11, kq 9]),
tq 13 (.mkList 1 2 [.t 10, .t 12]),
tq 14 (.call false true (.k (.fn n_priority_first [] [])) [.t 13]),
tq 4 (.mv (.t 14))] [3, 5, 9, 10, 11, 12, 13, 14])
.ret)))⟩

def c_slices_ContainsFunc_Lpriority_Claim_priority_Claim : CF := ⟨[.tmp 4],
  (.seq (.reg false [
tq 4 (.mv (.k (.d (.bool false))))] [4])
(.seq (.reg false [
tq 5 (.mv (.t 0)),
tq 6 (.mv (.t 1)),
tq 7 (.call true true (.k (.fn n_slices_IndexFunc_Lpriority_Claim_priority_Claim [] [])) [.t 5, .t 6]),
tq 8 (.bin .geq (.t 7) (kq 0)),
tq 4 (.mv (.t 8))] [0, 1, 5, 6, 7, 8])
.ret))⟩

def c_priority_checkClaims_1_1 : CF := ⟨[.tmp 3],
  (.seq (.reg false [
tq 2 (.box ty_priority_Claim (.t 0)),
tq 3 (.mv (.k (.d (.bool false))))] [0, 3])
(.seq (.reg false [
fa 4 0 2,
fa 5 0 4,
ld 6 5,
fa 7 0 1,
fa 8 0 7,
ld 9 8,
tq 10 (.bin .eql (.t 6) (.t 9)),
tq 3 (.mv (.t 10))] [1, 2, 4, 5, 6, 7, 8, 9, 10])
.ret))⟩

def b_priority_indices_1 : C :=
  (.seq (.reg false [
tq 7 (.bin .lss (.t 6) (.t 5))] [])
(.seq (.cond (.t 7) .skip
 (.exit 0))
(.seq (.block 1 (.seq (.reg false [
tq 8 (.mv (.t 6)),
tq 4 (.mv (.t 8))] [8])
(.reg false [
tq 9 (.mv (.t 3)),
tq 10 (.mv (.t 4)),
tq 11 (.mkList 1 1 [.t 10]),
tq 12 (.append ⟨true, ty_int, 1, 8⟩ (.t 9) (.t 11)),
tq 3 (.mv (.t 12))] [4, 9, 10, 11, 12])))
(.reg false [
tq 13 (.bin .add (.t 6) (kq 1)),
tq 6 (.mv (.t 13))] [13]))))

def c_priority_indices : CF := ⟨[.tmp 2],
  (.seq (.reg false [
tq 2 (.ownNil ⟨true, ty_int, 1, 8⟩)] [2])
(.seq (.reg false [
tq 3 (.ownNil ⟨true, ty_int, 1, 8⟩)] [])
(.seq (.seq (.reg false [
tq 5 (.mv (.t 0)),
tq 6 (.mv (kq 0))] [0])
(.block 0 (.loop [3, 5, 6] b_priority_indices_1)))
(.seq (.reg false [
tq 14 (.mv (.t 3)),
tq 2 (.mv (.t 14))] [3, 14])
.ret))))⟩

def c_slices_SortFunc_Lint_int : CF := ⟨[],
  (.seq (.reg false [
tq 5 (.mv (.t 0)),
tq 6 (.len .slc (.t 5)),
tq 4 (.mv (.t 6))] [5, 6])
(.reg false [
tq 7 (.mv (.t 0)),
tq 8 (.mv (.t 4)),
tq 9 (.mv (.t 4)),
tq 10 (.conv .u64 (.t 9)),
tq 11 (.call false true (.k (.fn n_math_bits_Len [] [])) [.t 10]),
tq 12 (.mv (.t 1)),
tq 13 (.call true true (.k (.fn n_slices_pdqsortCmpFunc_int [] [])) [.t 7, kq 0, .t 8, .t 11, .t 12])] [0, 1, 4, 7, 8, 9, 10, 11, 12, 13]))⟩

def c_priority_lots_1 : CF := ⟨[.tmp 5],
  (.seq (.reg false [
tq 5 (.mv (kq 0))] [5])
(.seq (.reg true [
ld 6 2,
tq 7 (.mv (.t 0)),
tq 8 (.idxAddr 18 (.t 6) (.t 7)),
fa 9 0 8,
fa 10 0 9,
ld 11 10,
ld 12 2,
tq 13 (.mv (.t 1)),
tq 14 (.idxAddr 18 (.t 12) (.t 13)),
fa 15 0 14,
fa 16 0 15,
ld 17 16,
tq 18 (.call false true (.k (.fn n_cmp_Compare_string [] [])) [.t 11, .t 17]),
tq 5 (.mv (.t 18))] [0, 1, 2, 6, 7, 8, 9, 10, 11, 12, 13, 14, 15, 16, 17, 18])
.ret))⟩

def c_cmp_Compare_string : CF := ⟨[.tmp 4],
  (.seq (.reg false [
tq 4 (.mv (kq 0))] [4])
(.seq (.reg false [
tq 7 (.mv (.t 0)),
tq 8 (.call false true (.k (.fn n_cmp_isNaN_string [] [])) [.t 7]),
tq 5 (.mv (.t 8))] [7, 8])
(.seq (.reg false [
tq 9 (.mv (.t 1)),
tq 10 (.call false true (.k (.fn n_cmp_isNaN_string [] [])) [.t 9]),
tq 6 (.mv (.t 10))] [9, 10])
(.seq (.seq (.reg false [
tq 11 (.mv (.t 5))] [5])
(.cond (.t 11) (.seq (.seq (.reg false [
tq 12 (.mv (.t 6))] [6])
(.cond (.t 12) (.seq (.reg false [
tq 4 (.mv (kq 0))] [])
.ret)
 .skip))
(.seq (.reg false [
tq 4 (.mv (kq (-1)))] [])
.ret))
 .skip))
(.seq (.seq (.reg false [
tq 13 (.mv (.t 6))] [6])
(.cond (.t 13) (.seq (.reg false [
tq 4 (.mv (kq 1))] [])
.ret)
 .skip))
(.seq (.seq (.reg false [
tq 14 (.mv (.t 0)),
tq 15 (.mv (.t 1)),
tq 16 (.bin .lss (.t 14) (.t 15))] [14, 15])
(.cond (.t 16) (.seq (.reg false [
tq 4 (.mv (kq (-1)))] [])
.ret)
 .skip))
(.seq (.seq (.reg false [
tq 17 (.mv (.t 0)),
tq 18 (.mv (.t 1)),
tq 19 (.bin .gtr (.t 17) (.t 18))] [0, 1, 17, 18])
(.cond (.t 19) (.seq (.reg false [
tq 4 (.mv (kq 1))] [])
.ret)
 .skip))
(.seq (.reg false [
tq 4 (.mv (kq 0))] [])
.ret))))))))⟩

def b_calendar_Draw_1 : C :=
  (.seq (.reg false [
tq 24 (.bin .lss (.t 23) (.t 22))] [])
(.seq (.cond (.t 24) .skip
 (.exit 0))
(.seq (.block 1 (.seq (.reg false [
tq 25 (.mv (.t 23)),
tq 8 (.mv (.t 25))] [25])
(.reg false [
tq 26 (.mv (.t 7)),
tq 27 (.mv (.t 8)),
tq 28 (.mkList 1 1 [.t 27]),
tq 29 (.append ⟨false, ty_int, 1, 8⟩ (.t 26) (.t 28)),
tq 7 (.mv (.t 29))] [8, 26, 27, 28, 29])))
(.reg false [
tq 30 (.bin .add (.t 23) (kq 1)),
tq 23 (.mv (.t 30))] [30]))))

def b_calendar_Draw_2 : C :=
  (.seq (.seq (.reg false [
tq 39 (.mv (.t 11)),
tq 40 (.bin .gtr (.t 39) (kq 0))] [39])
(.cond (.t 40) .skip
 (.exit 2)))
(.seq (.block 3 (.seq (.reg false [
tq 43 (.mv (.t 10)),
tq 44 (.bin .mul (kq 48271) (.t 43)),
tq 45 (.bin .rem (.t 44) (kq 2147483647)),
tq 10 (.mv (.t 45))] [43, 44, 45])
(.seq (.reg false [
tq 46 (.mv (.t 10)),
tq 47 (.mv (.t 11)),
tq 48 (.bin .add (.t 47) (kq 1)),
tq 49 (.bin .rem (.t 46) (.t 48)),
tq 12 (.mv (.t 49))] [46, 47, 48, 49])
(.reg true [
tq 50 (.mv (.t 9)),
tq 51 (.mv (.t 11)),
tq 52 (.mv (.t 9)),
tq 53 (.mv (.t 12)),
tq 54 (.mv (.t 9)),
tq 55 (.mv (.t 12)),
tq 56 (.idxAddr 1 (.t 54) (.t 55)),
ld 57 56,
tq 58 (.mv (.t 9)),
tq 59 (.mv (.t 11)),
tq 60 (.idxAddr 1 (.t 58) (.t 59)),
ld 61 60,
tq 62 (.idxAddr 1 (.t 50) (.t 51)),
⟨none, none, .store 1 (.t 62) (.t 57)⟩,
tq 63 (.idxAddr 1 (.t 52) (.t 53)),
⟨none, none, .store 1 (.t 63) (.t 61)⟩] [12, 50, 51, 52, 53, 54, 55, 56, 57, 58, 59, 60, 61, 62, 63]))))
(.reg false [
tq 41 (.mv (.t 11)),
tq 42 (.bin .sub (.t 41) (kq 1)),
tq 11 (.mv (.t 42))] [41, 42])))

def c_calendar_Draw : CF := ⟨[.tmp 4, .tmp 5],
  (.seq (.reg false [
tq 4 (.ownNil ⟨true, ty_int, 1, 8⟩),
tq 5 (.mv (kq 0))] [4, 5])
(.seq (.seq (.reg false [
tq 13 (.mv (.t 0)),
tq 14 (.call false true (.k (.fn n_calendar_within [] [])) [.t 13, kq 1, kq 2147483646]),
tq 15 (.mv (.t 1)),
tq 16 (.call false true (.k (.fn n_calendar_within [] [])) [.t 15, kq 0, kq 256]),
tq 17 (.mkList 1 2 [.t 14, .t 16]),
tq 18 (.call false true (.k (.fn n_calendar_first [] [])) [.t 17]),
tq 6 (.mv (.t 18))] [13, 14, 15, 16, 17, 18])
(.seq (.reg false [
tq 19 (.mv (.t 6)),
tq 20 (.bin .neq (.t 19) (kq 0))] [19])
(.cond (.t 20) (.seq (.reg false [
tq 21 (.mv (.t 6)),
tq 4 (.ownNil ⟨true, ty_int, 1, 8⟩),
tq 5 (.mv (.t 21))] [6, 21])
.ret)
 .skip)))
(.seq (.reg false [
tq 7 (.ownNil ⟨false, ty_int, 1, 8⟩)] [])
(.seq (.seq (.reg false [
tq 22 (.mv (.t 1)),
tq 23 (.mv (kq 0))] [])
(.block 0 (.loop [0, 1, 7, 22, 23] b_calendar_Draw_1)))
(.seq (.reg false [
tq 31 (.mv (.t 1)),
tq 32 (.makeRow ⟨true, ty_int, 1, 8⟩ [.int .i64 0] (.t 31)),
tq 9 (.mv (.t 32))] [31, 32])
(.seq (.reg false [
tq 33 (.mv (.t 9)),
tq 34 (.mv (.t 7)),
tq 35 (.copy 1 (.t 33) (.t 34))] [7, 33, 34, 35])
(.seq (.reg false [
tq 36 (.mv (.t 0)),
tq 10 (.mv (.t 36))] [0, 36])
(.seq (.seq (.reg false [
tq 37 (.mv (.t 1)),
tq 38 (.bin .sub (.t 37) (kq 1)),
tq 11 (.mv (.t 38))] [1, 37, 38])
(.block 2 (.loop [9, 10, 11] b_calendar_Draw_2)))
(.seq (.reg false [
tq 64 (.mv (.t 9)),
tq 4 (.mv (.t 64)),
tq 5 (.mv (kq 0))] [9, 64])
.ret)))))))))⟩

def c_priority_ranking_order_1 : CF := ⟨[.tmp 5],
  (.seq (.reg false [
tq 5 (.mv (kq 0))] [5])
(.seq (.reg false [
tq 9 (.load (some 6) (.t 2)),
tq 10 (.mv (.t 0)),
tq 11 (.mv (.t 1)),
tq 12 (.call false true (.k (.fn n_priority_ranking_compare [] [])) [.t 9, .t 10, .t 11]),
tq 8 (.mv (.t 12)),
tq 13 (.extract (.t 8) 0),
tq 14 (.extract (.t 8) 1),
tq 6 (.mv (.t 13)),
tq 7 (.mv (.t 14))] [0, 1, 2, 7, 8, 9, 10, 11, 12, 13, 14])
(.seq (.reg false [
tq 15 (.mv (.t 6)),
tq 5 (.mv (.t 15))] [6, 15])
.ret)))⟩

def b_slices_IndexFunc_Lint_int_1 : C :=
  (.seq (.reg false [
tq 9 (.bin .lss (.t 8) (.t 7))] [])
(.seq (.cond (.t 9) .skip
 (.exit 0))
(.seq (.block 1 (.seq (.reg false [
tq 10 (.mv (.t 8)),
tq 5 (.mv (.t 10))] [10])
(.seq (.reg false [
tq 11 (.mv (.t 1)),
tq 12 (.mv (.t 0)),
tq 13 (.mv (.t 5)),
tq 14 (.idxAddr 1 (.t 12) (.t 13)),
ld 15 14,
tq 16 (.call true true (.t 11) [.t 15])] [11, 12, 13, 14, 15])
(.cond (.t 16) (.seq (.reg false [
tq 17 (.mv (.t 5)),
tq 4 (.mv (.t 17))] [5, 17])
.ret)
 .skip))))
(.reg false [
tq 18 (.bin .add (.t 8) (kq 1)),
tq 8 (.mv (.t 18))] [18]))))

def c_slices_IndexFunc_Lint_int : CF := ⟨[.tmp 4],
  (.seq (.reg false [
tq 4 (.mv (kq 0))] [4])
(.seq (.seq (.reg false [
tq 6 (.mv (.t 0)),
tq 7 (.len .slc (.t 6)),
tq 8 (.mv (kq 0))] [6])
(.block 0 (.loop [0, 1, 7, 8] b_slices_IndexFunc_Lint_int_1)))
(.seq (.reg false [
tq 4 (.mv (kq (-1)))] [])
.ret)))⟩

def c_priority_ranking_order_2 : CF := ⟨[.tmp 3],
  (.seq (.reg false [
tq 3 (.mv (.k (.d (.bool false))))] [3])
(.seq (.reg true [
fa 4 0 1,
tq 5 (.load (some 4) (.t 4)),
fa 6 4 1,
ld 7 6,
tq 8 (.mv (.t 0)),
tq 9 (.idxAddr 18 (.t 7) (.t 8)),
tq 10 (.load (some 18) (.t 9)),
tq 11 (.call false true (.k (.fn n_priority_Program_classOf [] [])) [.t 5, .t 10]),
fa 12 0 1,
fa 13 1 12,
ld 14 13,
tq 15 (.bin .geq (.t 11) (.t 14)),
tq 3 (.mv (.t 15))] [0, 1, 4, 5, 6, 7, 8, 9, 10, 11, 12, 13, 14, 15])
.ret))⟩

def c_slices_Clone_Lint_int : CF := ⟨[.tmp 2],
  (.seq (.reg false [
tq 2 (.ownNil ⟨false, ty_int, 1, 8⟩)] [2])
(.seq (.seq (.reg false [
tq 3 (.mv (.t 0)),
tq 4 (.nilEq 2 false (.t 3))] [3])
(.cond (.t 4) (.seq (.reg false [
tq 2 (.ownNil ⟨false, ty_int, 1, 8⟩)] [])
.ret)
 .skip))
(.seq (.reg false [
tq 5 (.mkRow ⟨false, ty_int, 1, 8⟩ 0 []),
tq 6 (.mv (.t 0)),
tq 7 (.append ⟨false, ty_int, 1, 8⟩ (.t 5) (.t 6)),
tq 2 (.mv (.t 7))] [0, 5, 6, 7])
.ret)))⟩

def c_cmp_Compare_int : CF := ⟨[.tmp 4],
  (.seq (.reg false [
tq 4 (.mv (kq 0))] [4])
(.seq (.reg false [
tq 7 (.mv (.t 0)),
tq 8 (.call false true (.k (.fn n_cmp_isNaN_int [] [])) [.t 7]),
tq 5 (.mv (.t 8))] [7, 8])
(.seq (.reg false [
tq 9 (.mv (.t 1)),
tq 10 (.call false true (.k (.fn n_cmp_isNaN_int [] [])) [.t 9]),
tq 6 (.mv (.t 10))] [9, 10])
(.seq (.seq (.reg false [
tq 11 (.mv (.t 5))] [5])
(.cond (.t 11) (.seq (.seq (.reg false [
tq 12 (.mv (.t 6))] [6])
(.cond (.t 12) (.seq (.reg false [
tq 4 (.mv (kq 0))] [])
.ret)
 .skip))
(.seq (.reg false [
tq 4 (.mv (kq (-1)))] [])
.ret))
 .skip))
(.seq (.seq (.reg false [
tq 13 (.mv (.t 6))] [6])
(.cond (.t 13) (.seq (.reg false [
tq 4 (.mv (kq 1))] [])
.ret)
 .skip))
(.seq (.seq (.reg false [
tq 14 (.mv (.t 0)),
tq 15 (.mv (.t 1)),
tq 16 (.bin .lss (.t 14) (.t 15))] [14, 15])
(.cond (.t 16) (.seq (.reg false [
tq 4 (.mv (kq (-1)))] [])
.ret)
 .skip))
(.seq (.seq (.reg false [
tq 17 (.mv (.t 0)),
tq 18 (.mv (.t 1)),
tq 19 (.bin .gtr (.t 17) (.t 18))] [0, 1, 17, 18])
(.cond (.t 19) (.seq (.reg false [
tq 4 (.mv (kq 1))] [])
.ret)
 .skip))
(.seq (.reg false [
tq 4 (.mv (kq 0))] [])
.ret))))))))⟩

def c_priority_facts : CF := ⟨[.tmp 0],
  (.seq (.reg false [
tq 0 (.mv (.k (.d (.list 0 []))))] [0])
(.seq (.reg false [
tq 1 (.build [.z (.str []), .z (.nilf)] [(0, 1, .k (.d (.str [104, 105, 115, 116, 111, 114, 105, 99]))), (1, 1, .k (.fn n_priority_facts_1 [] []))]),
tq 2 (.build [.z (.str []), .z (.nilf)] [(0, 1, .k (.d (.str [114, 101, 116, 105, 109, 101, 100]))), (1, 1, .k (.fn n_priority_facts_2 [] []))]),
tq 3 (.build [.z (.str []), .z (.nilf)] [(0, 1, .k (.d (.str [110, 101, 119, 99, 111, 109, 101, 114]))), (1, 1, .k (.fn n_priority_facts_3 [] []))]),
tq 4 (.build [.z (.str []), .z (.nilf)] [(0, 1, .k (.d (.str [121, 101, 97, 114, 114, 111, 117, 110, 100]))), (1, 1, .k (.fn n_priority_facts_4 [] []))]),
tq 5 (.build [.z (.str []), .z (.nilf)] [(0, 1, .k (.d (.str [100, 97, 121, 115]))), (1, 1, .k (.fn n_priority_facts_5 [] []))]),
tq 6 (.build [.z (.str []), .z (.nilf)] [(0, 1, .k (.d (.str [115, 101, 97, 116, 115]))), (1, 1, .k (.fn n_priority_facts_6 [] []))]),
tq 7 (.build [.z (.str []), .z (.nilf)] [(0, 1, .k (.d (.str [115, 105, 122, 101]))), (1, 1, .k (.fn n_priority_facts_7 [] []))]),
tq 8 (.build [.z (.str []), .z (.nilf)] [(0, 1, .k (.d (.str [110, 111, 105, 115, 101]))), (1, 1, .k (.fn n_priority_facts_8 [] []))]),
tq 9 (.build [.z (.str []), .z (.nilf)] [(0, 1, .k (.d (.str [100, 105, 115, 116, 97, 110, 99, 101]))), (1, 1, .k (.fn n_priority_facts_9 [] []))]),
tq 10 (.build [.z (.str []), .z (.nilf)] [(0, 1, .k (.d (.str [109, 105, 110, 117, 116, 101]))), (1, 1, .k (.fn n_priority_facts_10 [] []))]),
tq 11 (.mkList 2 10 [.t 1, .t 2, .t 3, .t 4, .t 5, .t 6, .t 7, .t 8, .t 9, .t 10]),
tq 0 (.mv (.t 11))] [1, 2, 3, 4, 5, 6, 7, 8, 9, 10, 11])
.ret))⟩

def b_slices_IndexFunc_Lapi_Request_api_Request_1 : C :=
  (.seq (.reg false [
tq 9 (.bin .lss (.t 8) (.t 7))] [])
(.seq (.cond (.t 9) .skip
 (.exit 0))
(.seq (.block 1 (.seq (.reg false [
tq 10 (.mv (.t 8)),
tq 5 (.mv (.t 10))] [10])
(.seq (.reg false [
tq 11 (.mv (.t 1)),
tq 12 (.mv (.t 0)),
tq 13 (.mv (.t 5)),
tq 14 (.idxAddr 13 (.t 12) (.t 13)),
tq 15 (.load (some 13) (.t 14)),
tq 16 (.call true true (.t 11) [.t 15])] [11, 12, 13, 14, 15])
(.cond (.t 16) (.seq (.reg false [
tq 17 (.mv (.t 5)),
tq 4 (.mv (.t 17))] [5, 17])
.ret)
 .skip))))
(.reg false [
tq 18 (.bin .add (.t 8) (kq 1)),
tq 8 (.mv (.t 18))] [18]))))

def c_slices_IndexFunc_Lapi_Request_api_Request : CF := ⟨[.tmp 4],
  (.seq (.reg false [
tq 4 (.mv (kq 0))] [4])
(.seq (.seq (.reg false [
tq 6 (.mv (.t 0)),
tq 7 (.len .slc (.t 6)),
tq 8 (.mv (kq 0))] [6])
(.block 0 (.loop [0, 1, 7, 8] b_slices_IndexFunc_Lapi_Request_api_Request_1)))
(.seq (.reg false [
tq 4 (.mv (kq (-1)))] [])
.ret)))⟩

def b_message_first_1 : C :=
  (.seq (.reg false [
tq 8 (.bin .lss (.t 7) (.t 6))] [])
(.seq (.cond (.t 8) .skip
 (.exit 0))
(.seq (.block 1 (.seq (.reg false [
tq 9 (.idxAddr 1 (.t 5) (.t 7)),
ld 10 9,
tq 4 (.mv (.t 10))] [9, 10])
(.seq (.reg false [
tq 11 (.mv (.t 4)),
tq 12 (.bin .neq (.t 11) (kq 0))] [11])
(.cond (.t 12) (.seq (.reg false [
tq 13 (.mv (.t 4)),
tq 2 (.mv (.t 13))] [4, 13])
.ret)
 .skip))))
(.reg false [
tq 14 (.bin .add (.t 7) (kq 1)),
tq 7 (.mv (.t 14))] [14]))))

def c_message_first : CF := ⟨[.tmp 2],
  (.seq (.reg false [
tq 2 (.mv (kq 0))] [2])
(.seq (.seq (.reg false [
tq 5 (.mv (.t 0)),
tq 6 (.len .slc (.t 5)),
tq 7 (.mv (kq 0))] [0])
(.block 0 (.loop [5, 6, 7] b_message_first_1)))
(.seq (.reg false [
tq 2 (.mv (kq 0))] [])
.ret)))⟩

def c_message_named : CF := ⟨[.tmp 2],
  (.seq (.reg false [
tq 2 (.mv (kq 0))] [2])
(.seq (.reg false [
tq 3 (.mv (.t 0)),
tq 4 (.call false true (.k (.fn n_calendar_IsName [] [])) [.t 3]),
tq 5 (.un .not (.t 4)),
tq 6 (.call false true (.k (.fn n_message_when [] [])) [.t 5, kq 8]),
tq 2 (.mv (.t 6))] [0, 3, 4, 5, 6])
.ret))⟩

def c_message_optional : CF := ⟨[.tmp 2],
  (.seq (.reg false [
tq 2 (.mv (kq 0))] [2])
(.seq (.reg false [
tq 3 (.mv (.t 0)),
tq 4 (.bin .neq (.t 3) (.k (.d (.str [])))),
tq 5 (.mv (.t 4)),
⟨some 6, (some (5, true)), .mv (.t 0)⟩,
⟨some 7, (some (5, true)), .call false true (.k (.fn n_calendar_IsName [] [])) [.t 6]⟩,
⟨some 8, (some (5, true)), .un .not (.t 7)⟩,
tq 9 (.pick (.t 5) (.t 8) (.k (.d (.bool false)))),
tq 10 (.call false true (.k (.fn n_message_when [] [])) [.t 9, kq 8]),
tq 2 (.mv (.t 10))] [0, 3, 4, 5, 6, 7, 8, 9, 10])
.ret))⟩

def c_message_when : CF := ⟨[.tmp 4],
  (.seq (.reg false [
tq 4 (.mv (kq 0))] [4])
(.seq (.seq (.reg false [
tq 5 (.mv (.t 0))] [0])
(.cond (.t 5) (.seq (.reg false [
tq 6 (.mv (.t 1)),
tq 4 (.mv (.t 6))] [1, 6])
.ret)
 .skip))
(.seq (.reg false [
tq 4 (.mv (kq 0))] [])
.ret)))⟩

def c_message_isKind : CF := ⟨[.tmp 2],
  (.seq (.reg false [
tq 2 (.mv (.k (.d (.bool false))))] [2])
(.seq (.reg false [
tq 3 (.mv (.t 0)),
tq 4 (.bin .eql (.t 3) (.k (.d (.str [65])))),
tq 5 (.mv (.t 4)),
⟨some 6, (some (5, false)), .mv (.t 0)⟩,
⟨some 7, (some (5, false)), .bin .eql (.t 6) (.k (.d (.str [68])))⟩,
tq 8 (.pick (.t 5) (.k (.d (.bool true))) (.t 7)),
tq 2 (.mv (.t 8))] [0, 3, 4, 5, 6, 7, 8])
.ret))⟩

def c_calendar_CheckPeriod : CF := ⟨[.tmp 2],
  (.seq (.reg false [
tq 1 (.box ty_api_Period (.t 0)),
tq 2 (.mv (kq 0))] [0, 2])
(.seq (.seq (.reg true [
fa 4 0 1,
ld 5 4,
tq 6 (.call false true (.k (.fn n_calendar_checkDay [] [])) [.t 5]),
fa 7 1 1,
ld 8 7,
tq 9 (.call false true (.k (.fn n_calendar_checkDay [] [])) [.t 8]),
tq 10 (.mkList 1 2 [.t 6, .t 9]),
tq 11 (.call false true (.k (.fn n_calendar_first [] [])) [.t 10]),
tq 3 (.mv (.t 11))] [4, 5, 6, 7, 8, 9, 10, 11])
(.seq (.reg false [
tq 12 (.mv (.t 3)),
tq 13 (.bin .neq (.t 12) (kq 0))] [12])
(.cond (.t 13) (.seq (.reg false [
tq 14 (.mv (.t 3)),
tq 2 (.mv (.t 14))] [3, 14])
.ret)
 .skip)))
(.seq (.reg true [
fa 15 1 1,
ld 16 15,
fa 17 0 1,
ld 18 17,
tq 19 (.bin .lss (.t 16) (.t 18)),
tq 20 (.call false true (.k (.fn n_calendar_when [] [])) [.t 19, kq 11]),
fa 21 1 1,
ld 22 21,
fa 23 0 1,
ld 24 23,
tq 25 (.bin .sub (.t 22) (.t 24)),
tq 26 (.bin .gtr (.t 25) (kq 400)),
tq 27 (.call false true (.k (.fn n_calendar_when [] [])) [.t 26, kq 4]),
fa 28 2 1,
ld 29 28,
tq 30 (.call false true (.k (.fn n_calendar_within [] [])) [.t 29, kq 1, kq 127]),
tq 31 (.mkList 1 3 [.t 20, .t 27, .t 30]),
tq 32 (.call false true (.k (.fn n_calendar_first [] [])) [.t 31]),
tq 2 (.mv (.t 32))] [1, 15, 16, 17, 18, 19, 20, 21, 22, 23, 24, 25, 26, 27, 28, 29, 30, 31, 32])
.ret)))⟩

def c_message_within : CF := ⟨[.tmp 6],
  (.seq (.reg false [
tq 6 (.mv (kq 0))] [6])
(.seq (.reg false [
tq 7 (.mv (.t 0)),
tq 8 (.mv (.t 1)),
tq 9 (.bin .lss (.t 7) (.t 8)),
tq 10 (.mv (.t 9)),
⟨some 11, (some (10, false)), .mv (.t 0)⟩,
⟨some 12, (some (10, false)), .mv (.t 2)⟩,
⟨some 13, (some (10, false)), .bin .gtr (.t 11) (.t 12)⟩,
tq 14 (.pick (.t 10) (.k (.d (.bool true))) (.t 13)),
tq 15 (.call false true (.k (.fn n_message_when [] [])) [.t 14, kq 3]),
tq 6 (.mv (.t 15))] [0, 1, 2, 7, 8, 9, 10, 11, 12, 13, 14, 15])
.ret))⟩

def b_calendar_first_1 : C :=
  (.seq (.reg false [
tq 8 (.bin .lss (.t 7) (.t 6))] [])
(.seq (.cond (.t 8) .skip
 (.exit 0))
(.seq (.block 1 (.seq (.reg false [
tq 9 (.idxAddr 1 (.t 5) (.t 7)),
ld 10 9,
tq 4 (.mv (.t 10))] [9, 10])
(.seq (.reg false [
tq 11 (.mv (.t 4)),
tq 12 (.bin .neq (.t 11) (kq 0))] [11])
(.cond (.t 12) (.seq (.reg false [
tq 13 (.mv (.t 4)),
tq 2 (.mv (.t 13))] [4, 13])
.ret)
 .skip))))
(.reg false [
tq 14 (.bin .add (.t 7) (kq 1)),
tq 7 (.mv (.t 14))] [14]))))

def c_calendar_first : CF := ⟨[.tmp 2],
  (.seq (.reg false [
tq 2 (.mv (kq 0))] [2])
(.seq (.seq (.reg false [
tq 5 (.mv (.t 0)),
tq 6 (.len .slc (.t 5)),
tq 7 (.mv (kq 0))] [0])
(.block 0 (.loop [5, 6, 7] b_calendar_first_1)))
(.seq (.reg false [
tq 2 (.mv (kq 0))] [])
.ret)))⟩

def c_calendar_checkDay : CF := ⟨[.tmp 2],
  (.seq (.reg false [
tq 2 (.mv (kq 0))] [2])
(.seq (.reg false [
tq 3 (.mv (.t 0)),
tq 4 (.call false true (.k (.fn n_calendar_within [] [])) [.t 3, kq 0, kq 99999]),
tq 2 (.mv (.t 4))] [0, 3, 4])
.ret))⟩

def c_calendar_has : CF := ⟨[.tmp 4],
  (.seq (.reg false [
tq 2 (.box ty_api_Period (.t 0)),
tq 4 (.mv (.k (.d (.bool false))))] [0, 4])
(.seq (.reg true [
tq 5 (.mv (.t 1)),
fa 6 0 2,
ld 7 6,
tq 8 (.bin .geq (.t 5) (.t 7)),
tq 9 (.mv (.t 8)),
⟨some 10, (some (9, true)), .mv (.t 1)⟩,
⟨some 11, (some (9, true)), .fieldAddr 1 (.t 2)⟩,
⟨some 12, (some (9, true)), .load none (.t 11)⟩,
⟨some 13, (some (9, true)), .bin .leq (.t 10) (.t 12)⟩,
tq 14 (.pick (.t 9) (.t 13) (.k (.d (.bool false)))),
tq 15 (.mv (.t 14)),
⟨some 16, (some (15, true)), .fieldAddr 2 (.t 2)⟩,
⟨some 17, (some (15, true)), .load none (.t 16)⟩,
⟨some 18, (some (15, true)), .mv (.t 1)⟩,
⟨some 19, (some (15, true)), .call false true (.k (.fn n_calendar_weekday [] [])) [.t 18]⟩,
⟨some 20, (some (15, true)), .call false true (.k (.fn n_calendar_inMask [] [])) [.t 17, .t 19]⟩,
tq 21 (.pick (.t 15) (.t 20) (.k (.d (.bool false)))),
tq 4 (.mv (.t 21))] [1, 2, 5, 6, 7, 8, 9, 10, 11, 12, 13, 14, 15, 16, 17, 18, 19, 20, 21])
.ret))⟩

def b_ref01_InMask_1 : C :=
  (.seq (.seq (.reg false [
tq 6 (.mv (.t 5)),
tq 7 (.mv (.t 1)),
tq 8 (.bin .lss (.t 6) (.t 7))] [6, 7])
(.cond (.t 8) .skip
 (.exit 0)))
(.seq (.block 1 (.reg false [
tq 11 (.mv (.t 0)),
tq 12 (.bin .quo (.t 11) (kq 2)),
tq 0 (.mv (.t 12))] [11, 12]))
(.reg false [
tq 9 (.mv (.t 5)),
tq 10 (.bin .add (.t 9) (kq 1)),
tq 5 (.mv (.t 10))] [9, 10])))

def c_ref01_InMask : CF := ⟨[.tmp 4],
  (.seq (.reg false [
tq 4 (.mv (.k (.d (.bool false))))] [4])
(.seq (.seq (.reg false [
tq 5 (.mv (kq 0))] [])
(.block 0 (.loop [0, 1, 5] b_ref01_InMask_1)))
(.seq (.reg false [
tq 13 (.mv (.t 0)),
tq 14 (.bin .rem (.t 13) (kq 2)),
tq 15 (.bin .eql (.t 14) (kq 1)),
tq 4 (.mv (.t 15))] [0, 13, 14, 15])
.ret)))⟩

def c_ref01_Weekday : CF := ⟨[.tmp 2],
  (.seq (.reg false [
tq 2 (.mv (kq 0))] [2])
(.seq (.reg false [
tq 3 (.mv (.t 0)),
tq 4 (.bin .add (.t 3) (kq 5)),
tq 5 (.bin .rem (.t 4) (kq 7)),
tq 2 (.mv (.t 5))] [0, 3, 4, 5])
.ret))⟩

def c_ref05_CheckTest : CF := ⟨[.tmp 2],
  (.seq (.reg false [
tq 1 (.box ty_turnroundref05_Test (.t 0)),
tq 2 (.mv (kq 0))] [0, 2])
(.seq (.seq (.reg true [
tq 3 (.call false true (.k (.fn n_ref05_Facts [] [])) []),
fa 4 0 1,
ld 5 4,
tq 6 (.call false true (.k (.fn n_ref01_HasWord [] [])) [.t 3, .t 5]),
tq 7 (.un .not (.t 6))] [3, 4, 5, 6])
(.cond (.t 7) (.seq (.reg false [
tq 2 (.mv (kq 10))] [])
.ret)
 .skip))
(.seq (.seq (.reg false [
fa 8 1 1,
ld 9 8,
tq 10 (.bin .neq (.t 9) (.k (.d (.str [61])))),
tq 11 (.mv (.t 10)),
⟨some 12, (some (11, true)), .fieldAddr 1 (.t 1)⟩,
⟨some 13, (some (11, true)), .load none (.t 12)⟩,
⟨some 14, (some (11, true)), .bin .neq (.t 13) (.k (.d (.str [60])))⟩,
tq 15 (.pick (.t 11) (.t 14) (.k (.d (.bool false)))),
tq 16 (.mv (.t 15)),
⟨some 17, (some (16, true)), .fieldAddr 1 (.t 1)⟩,
⟨some 18, (some (16, true)), .load none (.t 17)⟩,
⟨some 19, (some (16, true)), .bin .neq (.t 18) (.k (.d (.str [62])))⟩,
tq 20 (.pick (.t 16) (.t 19) (.k (.d (.bool false))))] [8, 9, 10, 11, 12, 13, 14, 15, 16, 17, 18, 19])
(.cond (.t 20) (.seq (.reg false [
tq 2 (.mv (kq 13))] [])
.ret)
 .skip))
(.seq (.reg false [
fa 21 2 1,
ld 22 21,
tq 23 (.call false true (.k (.fn n_ref01_CheckRange [] [])) [.t 22, kq 0, kq 999999999]),
tq 2 (.mv (.t 23))] [1, 21, 22, 23])
.ret))))⟩

def b_ref01_HasWord_1 : C :=
  (.seq (.seq (.reg false [
tq 6 (.mv (.t 5)),
tq 7 (.mv (.t 0)),
tq 8 (.len .slc (.t 7)),
tq 9 (.bin .lss (.t 6) (.t 8))] [6, 7, 8])
(.cond (.t 9) .skip
 (.exit 0)))
(.seq (.block 1 (.seq (.reg false [
tq 12 (.mv (.t 0)),
tq 13 (.mv (.t 5)),
tq 14 (.idxAddr 1 (.t 12) (.t 13)),
ld 15 14,
tq 16 (.mv (.t 1)),
tq 17 (.bin .eql (.t 15) (.t 16))] [12, 13, 14, 15, 16])
(.cond (.t 17) (.seq (.reg false [
tq 4 (.mv (.k (.d (.bool true))))] [])
.ret)
 .skip)))
(.reg false [
tq 10 (.mv (.t 5)),
tq 11 (.bin .add (.t 10) (kq 1)),
tq 5 (.mv (.t 11))] [10, 11])))

def c_ref01_HasWord : CF := ⟨[.tmp 4],
  (.seq (.reg false [
tq 4 (.mv (.k (.d (.bool false))))] [4])
(.seq (.seq (.reg false [
tq 5 (.mv (kq 0))] [])
(.block 0 (.loop [0, 1, 5] b_ref01_HasWord_1)))
(.seq (.reg false [
tq 4 (.mv (.k (.d (.bool false))))] [])
.ret)))⟩

def c_ref05_Facts : CF := ⟨[.tmp 0],
  (.seq (.reg false [
tq 0 (.mv (.k (.d (.list 0 []))))] [0])
(.seq (.reg false [
tq 1 (.mkList 1 10 [.k (.d (.str [104, 105, 115, 116, 111, 114, 105, 99])), .k (.d (.str [114, 101, 116, 105, 109, 101, 100])), .k (.d (.str [110, 101, 119, 99, 111, 109, 101, 114])), .k (.d (.str [121, 101, 97, 114, 114, 111, 117, 110, 100])), .k (.d (.str [100, 97, 121, 115])), .k (.d (.str [115, 101, 97, 116, 115])), .k (.d (.str [115, 105, 122, 101])), .k (.d (.str [110, 111, 105, 115, 101])), .k (.d (.str [100, 105, 115, 116, 97, 110, 99, 101])), .k (.d (.str [109, 105, 110, 117, 116, 101]))]),
tq 0 (.mv (.t 1))] [1])
.ret))⟩

def c_ref01_CheckDay : CF := ⟨[.tmp 2],
  (.seq (.reg false [
tq 2 (.mv (kq 0))] [2])
(.seq (.reg false [
tq 3 (.mv (.t 0)),
tq 4 (.call false true (.k (.fn n_ref01_CheckRange [] [])) [.t 3, kq 0, kq 99999]),
tq 2 (.mv (.t 4))] [0, 3, 4])
.ret))⟩

def b_slices_IndexFunc_Lpriority_Class_priority_Class_1 : C :=
  (.seq (.reg false [
tq 9 (.bin .lss (.t 8) (.t 7))] [])
(.seq (.cond (.t 9) .skip
 (.exit 0))
(.seq (.block 1 (.seq (.reg false [
tq 10 (.mv (.t 8)),
tq 5 (.mv (.t 10))] [10])
(.seq (.reg false [
tq 11 (.mv (.t 1)),
tq 12 (.mv (.t 0)),
tq 13 (.mv (.t 5)),
tq 14 (.idxAddr 3 (.t 12) (.t 13)),
tq 15 (.load (some 3) (.t 14)),
tq 16 (.call true true (.t 11) [.t 15])] [11, 12, 13, 14, 15])
(.cond (.t 16) (.seq (.reg false [
tq 17 (.mv (.t 5)),
tq 4 (.mv (.t 17))] [5, 17])
.ret)
 .skip))))
(.reg false [
tq 18 (.bin .add (.t 8) (kq 1)),
tq 8 (.mv (.t 18))] [18]))))

def c_slices_IndexFunc_Lpriority_Class_priority_Class : CF := ⟨[.tmp 4],
  (.seq (.reg false [
tq 4 (.mv (kq 0))] [4])
(.seq (.seq (.reg false [
tq 6 (.mv (.t 0)),
tq 7 (.len .slc (.t 6)),
tq 8 (.mv (kq 0))] [6])
(.block 0 (.loop [0, 1, 7, 8] b_slices_IndexFunc_Lpriority_Class_priority_Class_1)))
(.seq (.reg false [
tq 4 (.mv (kq (-1)))] [])
.ret)))⟩

def b_priority_each_priority_Test_1 : C :=
  (.seq (.reg false [
tq 11 (.bin .lss (.t 10) (.t 9))] [])
(.seq (.cond (.t 11) .skip
 (.exit 0))
(.seq (.block 1 (.seq (.reg false [
tq 12 (.mv (.t 10)),
tq 13 (.idxAddr 3 (.t 8) (.t 10)),
tq 14 (.load (some 3) (.t 13)),
tq 6 (.alloc ty_priority_Test [.z (.str []), .z (.str []), .z (.int .i64 0)]),
tq 5 (.mv (.t 12)),
⟨none, none, .store 3 (.t 6) (.t 14)⟩] [12, 13, 14])
(.seq (.reg true [
tq 15 (.mv (.t 1)),
tq 16 (.mv (.t 0)),
tq 17 (.mv (.t 5)),
tq 18 (.slice 3 (.t 16) none (some (.t 17)) none),
tq 19 (.load (some 3) (.t 6)),
tq 20 (.call false true (.t 15) [.t 18, .t 19]),
tq 7 (.mv (.t 20))] [5, 6, 15, 16, 17, 18, 19, 20])
(.seq (.reg false [
tq 21 (.mv (.t 7)),
tq 22 (.bin .neq (.t 21) (kq 0))] [21])
(.cond (.t 22) (.seq (.reg false [
tq 23 (.mv (.t 7)),
tq 4 (.mv (.t 23))] [7, 23])
.ret)
 .skip)))))
(.reg false [
tq 24 (.bin .add (.t 10) (kq 1)),
tq 10 (.mv (.t 24))] [24]))))

def c_priority_each_priority_Test : CF := ⟨[.tmp 4],
  (.seq (.reg false [
tq 4 (.mv (kq 0))] [4])
(.seq (.seq (.reg false [
tq 8 (.mv (.t 0)),
tq 9 (.len .slc (.t 8)),
tq 10 (.mv (kq 0))] [])
(.block 0 (.loop [0, 1, 8, 9, 10] b_priority_each_priority_Test_1)))
(.seq (.reg false [
tq 4 (.mv (kq 0))] [])
.ret)))⟩

def c_priority_Class_check_1 : CF := ⟨[.tmp 4],
  (.seq (.reg false [
tq 3 (.box ty_priority_Test (.t 1)),
tq 4 (.mv (kq 0))] [1, 4])
(.seq (.reg false [
tq 5 (.load (some 3) (.t 3)),
tq 6 (.call false true (.k (.fn n_priority_Test_check [] [])) [.t 5]),
tq 4 (.mv (.t 6))] [3, 5, 6])
.ret))⟩

def c_priority_Test_check : CF := ⟨[.tmp 2],
  (.seq (.reg false [
tq 1 (.box ty_priority_Test (.t 0)),
tq 2 (.mv (kq 0))] [0, 2])
(.seq (.reg true [
tq 4 (.call false true (.k (.fn n_priority_Facts [] [])) []),
fa 5 0 1,
ld 6 5,
tq 7 (.call false true (.k (.fn n_slices_Contains_Lstring_string [] [])) [.t 4, .t 6]),
tq 3 (.mv (.t 7))] [4, 5, 6, 7])
(.seq (.reg true [
tq 8 (.mv (.t 3)),
tq 9 (.un .not (.t 8)),
tq 10 (.call false true (.k (.fn n_priority_when [] [])) [.t 9, kq 10]),
fa 11 1 1,
ld 12 11,
tq 13 (.bin .neq (.t 12) (.k (.d (.str [61])))),
tq 14 (.mv (.t 13)),
⟨some 15, (some (14, true)), .fieldAddr 1 (.t 1)⟩,
⟨some 16, (some (14, true)), .load none (.t 15)⟩,
⟨some 17, (some (14, true)), .bin .neq (.t 16) (.k (.d (.str [60])))⟩,
tq 18 (.pick (.t 14) (.t 17) (.k (.d (.bool false)))),
tq 19 (.mv (.t 18)),
⟨some 20, (some (19, true)), .fieldAddr 1 (.t 1)⟩,
⟨some 21, (some (19, true)), .load none (.t 20)⟩,
⟨some 22, (some (19, true)), .bin .neq (.t 21) (.k (.d (.str [62])))⟩,
tq 23 (.pick (.t 19) (.t 22) (.k (.d (.bool false)))),
tq 24 (.call false true (.k (.fn n_priority_when [] [])) [.t 23, kq 13]),
fa 25 2 1,
ld 26 25,
tq 27 (.call false true (.k (.fn n_priority_within [] [])) [.t 26, kq 0, kq 999999999]),
tq 28 (.mkList 1 3 [.t 10, .t 24, .t 27]),
tq 29 (.call false true (.k (.fn n_priority_first [] [])) [.t 28]),
tq 2 (.mv (.t 29))] [1, 3, 8, 9, 10, 11, 12, 13, 14, 15, 16, 17, 18, 19, 20, 21, 22, 23, 24, 25, 26, 27, 28, 29])
.ret)))⟩

def b_priority_each_priority_Key_1 : C :=
  (.seq (.reg false [
tq 11 (.bin .lss (.t 10) (.t 9))] [])
(.seq (.cond (.t 11) .skip
 (.exit 0))
(.seq (.block 1 (.seq (.reg false [
tq 12 (.mv (.t 10)),
tq 13 (.idxAddr 2 (.t 8) (.t 10)),
tq 14 (.load (some 2) (.t 13)),
tq 6 (.alloc ty_priority_Key [.z (.str []), .z (.bool false)]),
tq 5 (.mv (.t 12)),
⟨none, none, .store 2 (.t 6) (.t 14)⟩] [12, 13, 14])
(.seq (.reg true [
tq 15 (.mv (.t 1)),
tq 16 (.mv (.t 0)),
tq 17 (.mv (.t 5)),
tq 18 (.slice 2 (.t 16) none (some (.t 17)) none),
tq 19 (.load (some 2) (.t 6)),
tq 20 (.call false true (.t 15) [.t 18, .t 19]),
tq 7 (.mv (.t 20))] [5, 6, 15, 16, 17, 18, 19, 20])
(.seq (.reg false [
tq 21 (.mv (.t 7)),
tq 22 (.bin .neq (.t 21) (kq 0))] [21])
(.cond (.t 22) (.seq (.reg false [
tq 23 (.mv (.t 7)),
tq 4 (.mv (.t 23))] [7, 23])
.ret)
 .skip)))))
(.reg false [
tq 24 (.bin .add (.t 10) (kq 1)),
tq 10 (.mv (.t 24))] [24]))))

def c_priority_each_priority_Key : CF := ⟨[.tmp 4],
  (.seq (.reg false [
tq 4 (.mv (kq 0))] [4])
(.seq (.seq (.reg false [
tq 8 (.mv (.t 0)),
tq 9 (.len .slc (.t 8)),
tq 10 (.mv (kq 0))] [])
(.block 0 (.loop [0, 1, 8, 9, 10] b_priority_each_priority_Key_1)))
(.seq (.reg false [
tq 4 (.mv (kq 0))] [])
.ret)))⟩

def c_priority_Class_check_2 : CF := ⟨[.tmp 4],
  (.seq (.reg false [
tq 3 (.box ty_priority_Key (.t 1)),
tq 4 (.mv (kq 0))] [1, 4])
(.seq (.reg false [
tq 6 (.mv (.t 0)),
tq 7 (.mkFunc n_priority_Class_check_2_1 [] [.t 3]),
tq 8 (.call true true (.k (.fn n_slices_ContainsFunc_Lpriority_Key_priority_Key [] [])) [.t 6, .t 7]),
tq 5 (.mv (.t 8))] [0, 6, 7, 8])
(.seq (.reg true [
tq 9 (.call false true (.k (.fn n_priority_Facts [] [])) []),
fa 10 0 3,
ld 11 10,
tq 12 (.call false true (.k (.fn n_slices_Contains_Lstring_string [] [])) [.t 9, .t 11]),
tq 13 (.un .not (.t 12)),
tq 14 (.call false true (.k (.fn n_priority_when [] [])) [.t 13, kq 10]),
tq 15 (.mv (.t 5)),
tq 16 (.call false true (.k (.fn n_priority_when [] [])) [.t 15, kq 9]),
tq 17 (.mkList 1 2 [.t 14, .t 16]),
tq 18 (.call false true (.k (.fn n_priority_first [] [])) [.t 17]),
tq 4 (.mv (.t 18))] [3, 5, 9, 10, 11, 12, 13, 14, 15, 16, 17, 18])
.ret)))⟩

def c_slices_ContainsFunc_Lpriority_Key_priority_Key : CF := ⟨[.tmp 4],
  (.seq (.reg false [
tq 4 (.mv (.k (.d (.bool false))))] [4])
(.seq (.reg false [
tq 5 (.mv (.t 0)),
tq 6 (.mv (.t 1)),
tq 7 (.call true true (.k (.fn n_slices_IndexFunc_Lpriority_Key_priority_Key [] [])) [.t 5, .t 6]),
tq 8 (.bin .geq (.t 7) (kq 0)),
tq 4 (.mv (.t 8))] [0, 1, 5, 6, 7, 8])
.ret))⟩

def c_priority_Class_check_2_1 : CF := ⟨[.tmp 3],
  (.seq (.reg false [
tq 2 (.box ty_priority_Key (.t 0)),
tq 3 (.mv (.k (.d (.bool false))))] [0, 3])
(.seq (.reg false [
fa 4 0 2,
ld 5 4,
fa 6 0 1,
ld 7 6,
tq 8 (.bin .eql (.t 5) (.t 7)),
tq 3 (.mv (.t 8))] [1, 2, 4, 5, 6, 7, 8])
.ret))⟩

def b_priority_Facts_1 : C :=
  (.seq (.reg false [
tq 7 (.bin .lss (.t 6) (.t 5))] [])
(.seq (.cond (.t 7) .skip
 (.exit 0))
(.seq (.block 1 (.seq (.reg false [
tq 8 (.idxAddr 2 (.t 4) (.t 6)),
tq 9 (.load (some 2) (.t 8)),
tq 3 (.alloc ty_priority_fact [.z (.str []), .z (.nilf)]),
⟨none, none, .store 2 (.t 3) (.t 9)⟩] [8, 9])
(.reg false [
tq 10 (.mv (.t 1)),
fa 11 0 3,
ld 12 11,
tq 13 (.mkList 1 1 [.t 12]),
tq 14 (.append ⟨false, ty_string, 1, 16⟩ (.t 10) (.t 13)),
tq 1 (.mv (.t 14))] [3, 10, 11, 12, 13, 14])))
(.reg false [
tq 15 (.bin .add (.t 6) (kq 1)),
tq 6 (.mv (.t 15))] [15]))))

def c_priority_Facts : CF := ⟨[.tmp 0],
  (.seq (.reg false [
tq 0 (.ownNil ⟨false, ty_string, 1, 16⟩)] [0])
(.seq (.reg false [
tq 1 (.ownNil ⟨false, ty_string, 1, 16⟩)] [])
(.seq (.seq (.reg false [
tq 4 (.call false false (.k (.fn n_priority_facts [] [])) []),
tq 5 (.len .slc (.t 4)),
tq 6 (.mv (kq 0))] [])
(.block 0 (.loop [1, 4, 5, 6] b_priority_Facts_1)))
(.seq (.reg false [
tq 16 (.mv (.t 1)),
tq 0 (.mv (.t 16))] [1, 16])
.ret))))⟩

def c_internal_stringslite_CutSuffix : CF := ⟨[.tmp 4, .tmp 5],
  (.seq (.reg false [
tq 4 (.mv (.k (.d (.str [])))),
tq 5 (.mv (.k (.d (.bool false))))] [4, 5])
(.seq (.seq (.reg false [
tq 6 (.mv (.t 0)),
tq 7 (.mv (.t 1)),
tq 8 (.call false true (.k (.fn n_internal_stringslite_HasSuffix [] [])) [.t 6, .t 7]),
tq 9 (.un .not (.t 8))] [6, 7, 8])
(.cond (.t 9) (.seq (.reg false [
tq 10 (.mv (.t 0)),
tq 4 (.mv (.t 10)),
tq 5 (.mv (.k (.d (.bool false))))] [0, 10])
.ret)
 .skip))
(.seq (.reg false [
tq 11 (.mv (.t 0)),
tq 12 (.mv (.t 0)),
tq 13 (.len .str (.t 12)),
tq 14 (.mv (.t 1)),
tq 15 (.len .str (.t 14)),
tq 16 (.bin .sub (.t 13) (.t 15)),
tq 17 (.sliceS (.t 11) none (some (.t 16))),
tq 4 (.mv (.t 17)),
tq 5 (.mv (.k (.d (.bool true))))] [0, 1, 11, 12, 13, 14, 15, 16, 17])
.ret)))⟩

def b_slices_Index_Lstring_string_1 : C :=
  (.seq (.reg false [
tq 9 (.bin .lss (.t 8) (.t 7))] [])
(.seq (.cond (.t 9) .skip
 (.exit 0))
(.seq (.block 1 (.seq (.reg false [
tq 10 (.mv (.t 8)),
tq 5 (.mv (.t 10))] [10])
(.seq (.reg false [
tq 11 (.mv (.t 1)),
tq 12 (.mv (.t 0)),
tq 13 (.mv (.t 5)),
tq 14 (.idxAddr 1 (.t 12) (.t 13)),
ld 15 14,
tq 16 (.bin .eql (.t 11) (.t 15))] [11, 12, 13, 14, 15])
(.cond (.t 16) (.seq (.reg false [
tq 17 (.mv (.t 5)),
tq 4 (.mv (.t 17))] [5, 17])
.ret)
 .skip))))
(.reg false [
tq 18 (.bin .add (.t 8) (kq 1)),
tq 8 (.mv (.t 18))] [18]))))

def c_slices_Index_Lstring_string : CF := ⟨[.tmp 4],
  (.seq (.reg false [
tq 4 (.mv (kq 0))] [4])
(.seq (.seq (.reg false [
tq 6 (.mv (.t 0)),
tq 7 (.len .slc (.t 6)),
tq 8 (.mv (kq 0))] [6])
(.block 0 (.loop [0, 1, 7, 8] b_slices_Index_Lstring_string_1)))
(.seq (.reg false [
tq 4 (.mv (kq (-1)))] [])
.ret)))⟩

def b_priority_all_priority_Test_1 : C :=
  (.seq (.seq (.reg false [
tq 11 (.mv (.t 0)),
tq 12 (.nilCheck (.t 11)),
fa 13 0 12,
ld 14 13,
tq 15 (.len .slc (.t 14)),
tq 16 (.bin .gtr (.t 15) (kq 0)),
tq 17 (.mv (.t 16)),
⟨some 18, (some (17, true)), .mv (.t 0)⟩,
⟨some 19, (some (17, true)), .nilCheck (.t 18)⟩,
⟨some 20, (some (17, true)), .fieldAddr 0 (.t 19)⟩,
⟨some 21, (some (17, true)), .load none (.t 20)⟩,
⟨some 22, (some (17, true)), .idxAddr 1 (.t 21) (kq 0)⟩,
⟨some 23, (some (17, true)), .load none (.t 22)⟩,
⟨some 24, (some (17, true)), .mv (.t 1)⟩,
⟨some 25, (some (17, true)), .bin .neq (.t 23) (.t 24)⟩,
tq 26 (.pick (.t 17) (.t 25) (.k (.d (.bool false))))] [11, 12, 13, 14, 15, 16, 17, 18, 19, 20, 21, 22, 23, 24, 25])
(.cond (.t 26) .skip
 (.exit 0)))
(.block 1 (.seq (.reg false [
tq 28 (.mv (.t 2)),
tq 29 (.mv (.t 0)),
tq 30 (.call true true (.k (.fn n_priority_reader_next [] [])) [.t 29]),
tq 31 (.call true true (.t 28) [.t 30]),
tq 27 (.mv (.t 31)),
tq 32 (.extract (.t 27) 0),
tq 33 (.extract (.t 27) 1),
tq 9 (.alloc ty_priority_Test [.z (.str []), .z (.str []), .z (.int .i64 0)]),
⟨none, none, .store 3 (.t 9) (.t 32)⟩,
tq 10 (.mv (.t 33))] [27, 28, 29, 30, 31, 32, 33])
(.seq (.seq (.reg false [
tq 34 (.mv (.t 10)),
tq 35 (.un .not (.t 34))] [10, 34])
(.cond (.t 35) (.seq (.reg false [
tq 6 (.ownNil ⟨false, ty_priority_Test, 3, 40⟩),
tq 7 (.mv (.k (.d (.bool false))))] [])
.ret)
 .skip))
(.reg false [
tq 36 (.mv (.t 8)),
tq 37 (.load (some 3) (.t 9)),
tq 38 (.mkList 3 1 [.t 37]),
tq 39 (.append ⟨false, ty_priority_Test, 3, 40⟩ (.t 36) (.t 38)),
tq 8 (.mv (.t 39))] [9, 36, 37, 38, 39])))))

def c_priority_all_priority_Test : CF := ⟨[.tmp 6, .tmp 7],
  (.seq (.reg false [
tq 6 (.ownNil ⟨false, ty_priority_Test, 3, 40⟩),
tq 7 (.mv (.k (.d (.bool false))))] [6, 7])
(.seq (.reg false [
tq 8 (.ownNil ⟨false, ty_priority_Test, 3, 40⟩)] [])
(.seq (.block 0 (.loop [0, 1, 2, 8] b_priority_all_priority_Test_1))
(.seq (.reg false [
tq 40 (.mv (.t 8)),
tq 41 (.mv (.t 8)),
tq 42 (.len .slc (.t 41)),
tq 43 (.bin .gtr (.t 42) (kq 0)),
tq 6 (.mv (.t 40)),
tq 7 (.mv (.t 43))] [8, 40, 41, 42, 43])
.ret))))⟩

def c_priority_test : CF := ⟨[.cell 2 (some 3), .tmp 3],
  (.seq (.reg false [
tq 2 (.alloc ty_priority_Test [.z (.str []), .z (.str []), .z (.int .i64 0)]),
tq 3 (.mv (.k (.d (.bool false))))] [3])
(.seq (.reg false [
tq 7 (.mv (.t 0)),
tq 8 (.call false true (.k (.fn n_strings_IndexAny [] [])) [.t 7, .k (.d (.str [61, 60, 62]))]),
tq 4 (.mv (.t 8))] [7, 8])
(.seq (.seq (.reg false [
tq 9 (.mv (.t 4)),
tq 10 (.bin .lss (.t 9) (kq 0))] [9])
(.cond (.t 10) (.seq (.reg false [
tq 11 (.build [.z (.str []), .z (.str []), .z (.int .i64 0)] []),
⟨none, none, .store 3 (.t 2) (.t 11)⟩,
tq 3 (.mv (.k (.d (.bool false))))] [11])
.ret)
 .skip))
(.seq (.reg false [
tq 13 (.mv (.t 0)),
tq 14 (.mv (.t 4)),
tq 15 (.bin .add (.t 14) (kq 1)),
tq 16 (.sliceS (.t 13) (some (.t 15)) none),
tq 17 (.call false true (.k (.fn n_priority_integer [] [])) [.t 16]),
tq 12 (.mv (.t 17)),
tq 18 (.extract (.t 12) 0),
tq 19 (.extract (.t 12) 1),
tq 5 (.mv (.t 18)),
tq 6 (.mv (.t 19))] [12, 13, 14, 15, 16, 17, 18, 19])
(.seq (.reg true [
tq 20 (.mv (.t 0)),
tq 21 (.mv (.t 4)),
tq 22 (.sliceS (.t 20) none (some (.t 21))),
tq 23 (.mv (.t 0)),
tq 24 (.mv (.t 4)),
tq 25 (.mv (.t 4)),
tq 26 (.bin .add (.t 25) (kq 1)),
tq 27 (.sliceS (.t 23) (some (.t 24)) (some (.t 26))),
tq 28 (.mv (.t 5)),
tq 29 (.build [.z (.str []), .z (.str []), .z (.int .i64 0)] [(0, 1, .t 22), (1, 1, .t 27), (2, 1, .t 28)]),
tq 30 (.mv (.t 6)),
⟨none, none, .store 3 (.t 2) (.t 29)⟩,
tq 3 (.mv (.t 30))] [0, 4, 5, 6, 20, 21, 22, 23, 24, 25, 26, 27, 28, 29, 30])
.ret)))))⟩

def b_priority_all_priority_Key_1 : C :=
  (.seq (.seq (.reg false [
tq 11 (.mv (.t 0)),
tq 12 (.nilCheck (.t 11)),
fa 13 0 12,
ld 14 13,
tq 15 (.len .slc (.t 14)),
tq 16 (.bin .gtr (.t 15) (kq 0)),
tq 17 (.mv (.t 16)),
⟨some 18, (some (17, true)), .mv (.t 0)⟩,
⟨some 19, (some (17, true)), .nilCheck (.t 18)⟩,
⟨some 20, (some (17, true)), .fieldAddr 0 (.t 19)⟩,
⟨some 21, (some (17, true)), .load none (.t 20)⟩,
⟨some 22, (some (17, true)), .idxAddr 1 (.t 21) (kq 0)⟩,
⟨some 23, (some (17, true)), .load none (.t 22)⟩,
⟨some 24, (some (17, true)), .mv (.t 1)⟩,
⟨some 25, (some (17, true)), .bin .neq (.t 23) (.t 24)⟩,
tq 26 (.pick (.t 17) (.t 25) (.k (.d (.bool false))))] [11, 12, 13, 14, 15, 16, 17, 18, 19, 20, 21, 22, 23, 24, 25])
(.cond (.t 26) .skip
 (.exit 0)))
(.block 1 (.seq (.reg false [
tq 28 (.mv (.t 2)),
tq 29 (.mv (.t 0)),
tq 30 (.call true true (.k (.fn n_priority_reader_next [] [])) [.t 29]),
tq 31 (.call true true (.t 28) [.t 30]),
tq 27 (.mv (.t 31)),
tq 32 (.extract (.t 27) 0),
tq 33 (.extract (.t 27) 1),
tq 9 (.alloc ty_priority_Key [.z (.str []), .z (.bool false)]),
⟨none, none, .store 2 (.t 9) (.t 32)⟩,
tq 10 (.mv (.t 33))] [27, 28, 29, 30, 31, 32, 33])
(.seq (.seq (.reg false [
tq 34 (.mv (.t 10)),
tq 35 (.un .not (.t 34))] [10, 34])
(.cond (.t 35) (.seq (.reg false [
tq 6 (.ownNil ⟨false, ty_priority_Key, 2, 24⟩),
tq 7 (.mv (.k (.d (.bool false))))] [])
.ret)
 .skip))
(.reg false [
tq 36 (.mv (.t 8)),
tq 37 (.load (some 2) (.t 9)),
tq 38 (.mkList 2 1 [.t 37]),
tq 39 (.append ⟨false, ty_priority_Key, 2, 24⟩ (.t 36) (.t 38)),
tq 8 (.mv (.t 39))] [9, 36, 37, 38, 39])))))

def c_priority_all_priority_Key : CF := ⟨[.tmp 6, .tmp 7],
  (.seq (.reg false [
tq 6 (.ownNil ⟨false, ty_priority_Key, 2, 24⟩),
tq 7 (.mv (.k (.d (.bool false))))] [6, 7])
(.seq (.reg false [
tq 8 (.ownNil ⟨false, ty_priority_Key, 2, 24⟩)] [])
(.seq (.block 0 (.loop [0, 1, 2, 8] b_priority_all_priority_Key_1))
(.seq (.reg false [
tq 40 (.mv (.t 8)),
tq 41 (.mv (.t 8)),
tq 42 (.len .slc (.t 41)),
tq 43 (.bin .gtr (.t 42) (kq 0)),
tq 6 (.mv (.t 40)),
tq 7 (.mv (.t 43))] [8, 40, 41, 42, 43])
.ret))))⟩

def b_priority_key_1 : C :=
  (.seq (.reg false [
tq 9 (.nextS (.t 8)),
tq 10 (.extract (.t 9) 0)] [])
(.seq (.cond (.t 10) .skip
 (.exit 0))
(.block 1 (.seq (.reg false [
tq 11 (.extract (.t 9) 2),
tq 6 (.mv (.t 11))] [9, 11])
(.reg false [
tq 12 (.mv (.t 6)),
tq 4 (.mv (.t 12))] [6, 12])))))

def c_priority_key : CF := ⟨[.cell 2 (some 2), .tmp 3],
  (.seq (.reg false [
tq 2 (.alloc ty_priority_Key [.z (.str []), .z (.bool false)]),
tq 3 (.mv (.k (.d (.bool false))))] [3])
(.seq (.reg false [
tq 4 (.mv (.k (.d (.int .i32 0))))] [])
(.seq (.seq (.reg false [
tq 7 (.mv (.t 0)),
tq 8 (.rangeS (.t 7))] [7])
(.block 0 (.loop [0, 2, 4, 8] b_priority_key_1)))
(.seq (.seq (.reg false [
tq 13 (.mv (.t 4)),
tq 14 (.bin .neq (.t 13) (.k (.d (.int .i32 43)))),
tq 15 (.mv (.t 14)),
⟨some 16, (some (15, true)), .mv (.t 4)⟩,
⟨some 17, (some (15, true)), .bin .neq (.t 16) (.k (.d (.int .i32 45)))⟩,
tq 18 (.pick (.t 15) (.t 17) (.k (.d (.bool false))))] [13, 14, 15, 16, 17])
(.cond (.t 18) (.seq (.reg false [
tq 19 (.build [.z (.str []), .z (.bool false)] []),
⟨none, none, .store 2 (.t 2) (.t 19)⟩,
tq 3 (.mv (.k (.d (.bool false))))] [19])
.ret)
 .skip))
(.seq (.reg false [
tq 20 (.mv (.t 0)),
tq 21 (.mv (.t 0)),
tq 22 (.len .str (.t 21)),
tq 23 (.bin .sub (.t 22) (kq 1)),
tq 24 (.sliceS (.t 20) none (some (.t 23))),
tq 25 (.mv (.t 4)),
tq 26 (.bin .eql (.t 25) (.k (.d (.int .i32 45)))),
tq 27 (.build [.z (.str []), .z (.bool false)] [(0, 1, .t 24), (1, 1, .t 26)]),
⟨none, none, .store 2 (.t 2) (.t 27)⟩,
tq 3 (.mv (.k (.d (.bool true))))] [0, 4, 20, 21, 22, 23, 24, 25, 26, 27])
.ret)))))⟩

def c_priority_integer : CF := ⟨[.tmp 2, .tmp 3],
  (.seq (.reg false [
tq 2 (.mv (kq 0)),
tq 3 (.mv (.k (.d (.bool false))))] [2, 3])
(.seq (.reg false [
tq 7 (.mv (.t 0)),
tq 8 (.call false false (.k (.fn n_strconv_Atoi [] [])) [.t 7]),
tq 6 (.mv (.t 8)),
tq 9 (.extract (.t 6) 0),
tq 10 (.extract (.t 6) 1),
tq 4 (.mv (.t 9)),
tq 5 (.mv (.t 10))] [6, 7, 8, 9, 10])
(.seq (.reg false [
tq 11 (.mv (.t 4)),
tq 12 (.mv (.t 5)),
tq 13 (.nilEq 1 false (.t 12)),
tq 14 (.mv (.t 13)),
⟨some 15, (some (14, true)), .mv (.t 4)⟩,
⟨some 16, (some (14, true)), .bin .geq (.t 15) (kq 0)⟩,
tq 17 (.pick (.t 14) (.t 16) (.k (.d (.bool false)))),
tq 18 (.mv (.t 17)),
⟨some 19, (some (18, true)), .mv (.t 4)⟩,
⟨some 20, (some (18, true)), .bin .leq (.t 19) (kq 999999999)⟩,
tq 21 (.pick (.t 18) (.t 20) (.k (.d (.bool false)))),
tq 22 (.mv (.t 21)),
⟨some 23, (some (22, true)), .mv (.t 4)⟩,
⟨some 24, (some (22, true)), .call false true (.k (.fn n_strconv_Itoa [] [])) [.t 23]⟩,
⟨some 25, (some (22, true)), .mv (.t 0)⟩,
⟨some 26, (some (22, true)), .bin .eql (.t 24) (.t 25)⟩,
tq 27 (.pick (.t 22) (.t 26) (.k (.d (.bool false)))),
tq 2 (.mv (.t 11)),
tq 3 (.mv (.t 27))] [0, 4, 5, 11, 12, 13, 14, 15, 16, 17, 18, 19, 20, 21, 22, 23, 24, 25, 26, 27])
.ret)))⟩

def b_priority_Program_keys_1_1 : C :=
  (.seq (.reg false [
tq 19 (.bin .lss (.t 18) (.t 17))] [])
(.seq (.cond (.t 19) .skip
 (.exit 0))
(.seq (.block 1 (.seq (.reg false [
tq 20 (.idxAddr 2 (.t 16) (.t 18)),
tq 21 (.load (some 2) (.t 20)),
tq 5 (.alloc ty_priority_Key [.z (.str []), .z (.bool false)]),
⟨none, none, .store 2 (.t 5) (.t 21)⟩] [20, 21])
(.seq (.reg true [
tq 22 (.mv (.t 0)),
tq 23 (.load (some 2) (.t 5)),
tq 24 (.call false false (.k (.fn n_priority_known [] [])) []),
fa 25 0 5,
ld 26 25,
tq 27 (.lookup .str (.agg [.str [], .nilf]) false (.t 24) (.t 26)),
tq 28 (.call true true (.t 22) [.t 23, .t 27]),
tq 29 (.un .not (.t 28))] [5, 22, 23, 24, 25, 26, 27, 28])
(.cond (.t 29) .ret
 .skip))))
(.reg false [
tq 30 (.bin .add (.t 18) (kq 1)),
tq 18 (.mv (.t 30))] [30]))))

def c_priority_Program_keys_1 : CF := ⟨[],
  (.seq (.seq (.reg false [
ld 6 1,
fa 7 0 2,
ld 8 7,
tq 9 (.len .slc (.t 8)),
tq 10 (.bin .geq (.t 6) (.t 9))] [6, 7, 8, 9])
(.cond (.t 10) .ret
 .skip))
(.seq (.reg false [
fa 11 0 2,
ld 12 11,
ld 13 1,
tq 14 (.idxAddr 3 (.t 12) (.t 13)),
fa 15 2 14,
ld 16 15,
tq 17 (.len .slc (.t 16)),
tq 18 (.mv (kq 0))] [1, 2, 11, 12, 13, 14, 15])
(.block 0 (.loop [0, 16, 17, 18] b_priority_Program_keys_1_1))))⟩

def b_slices_IndexFunc_Lpriority_Claim_priority_Claim_1 : C :=
  (.seq (.reg false [
tq 9 (.bin .lss (.t 8) (.t 7))] [])
(.seq (.cond (.t 9) .skip
 (.exit 0))
(.seq (.block 1 (.seq (.reg false [
tq 10 (.mv (.t 8)),
tq 5 (.mv (.t 10))] [10])
(.seq (.reg false [
tq 11 (.mv (.t 1)),
tq 12 (.mv (.t 0)),
tq 13 (.mv (.t 5)),
tq 14 (.idxAddr 18 (.t 12) (.t 13)),
tq 15 (.load (some 18) (.t 14)),
tq 16 (.call true true (.t 11) [.t 15])] [11, 12, 13, 14, 15])
(.cond (.t 16) (.seq (.reg false [
tq 17 (.mv (.t 5)),
tq 4 (.mv (.t 17))] [5, 17])
.ret)
 .skip))))
(.reg false [
tq 18 (.bin .add (.t 8) (kq 1)),
tq 8 (.mv (.t 18))] [18]))))

def c_slices_IndexFunc_Lpriority_Claim_priority_Claim : CF := ⟨[.tmp 4],
  (.seq (.reg false [
tq 4 (.mv (kq 0))] [4])
(.seq (.seq (.reg false [
tq 6 (.mv (.t 0)),
tq 7 (.len .slc (.t 6)),
tq 8 (.mv (kq 0))] [6])
(.block 0 (.loop [0, 1, 7, 8] b_slices_IndexFunc_Lpriority_Claim_priority_Claim_1)))
(.seq (.reg false [
tq 4 (.mv (kq (-1)))] [])
.ret)))⟩

def b_slices_pdqsortCmpFunc_int_1 : C :=
  (.block 1 (.seq (.reg false [
tq 21 (.mv (.t 2)),
tq 22 (.mv (.t 1)),
tq 23 (.bin .sub (.t 21) (.t 22)),
tq 12 (.mv (.t 23))] [21, 22, 23])
(.seq (.seq (.reg false [
tq 24 (.mv (.t 12)),
tq 25 (.bin .leq (.t 24) (kq 12))] [24])
(.cond (.t 25) (.seq (.reg false [
tq 26 (.mv (.t 0)),
tq 27 (.mv (.t 1)),
tq 28 (.mv (.t 2)),
tq 29 (.mv (.t 4)),
tq 30 (.call true true (.k (.fn n_slices_insertionSortCmpFunc_int [] [])) [.t 26, .t 27, .t 28, .t 29])] [0, 1, 2, 4, 26, 27, 28, 29, 30])
.ret)
 .skip))
(.seq (.seq (.reg false [
tq 31 (.mv (.t 3)),
tq 32 (.bin .eql (.t 31) (kq 0))] [31])
(.cond (.t 32) (.seq (.reg false [
tq 33 (.mv (.t 0)),
tq 34 (.mv (.t 1)),
tq 35 (.mv (.t 2)),
tq 36 (.mv (.t 4)),
tq 37 (.call true true (.k (.fn n_slices_heapSortCmpFunc_int [] [])) [.t 33, .t 34, .t 35, .t 36])] [0, 1, 2, 4, 33, 34, 35, 36, 37])
.ret)
 .skip))
(.seq (.seq (.reg false [
tq 38 (.mv (.t 10)),
tq 39 (.un .not (.t 38))] [38])
(.cond (.t 39) (.seq (.reg false [
tq 40 (.mv (.t 0)),
tq 41 (.mv (.t 1)),
tq 42 (.mv (.t 2)),
tq 43 (.mv (.t 4)),
tq 44 (.call true true (.k (.fn n_slices_breakPatternsCmpFunc_int [] [])) [.t 40, .t 41, .t 42, .t 43])] [40, 41, 42, 43, 44])
(.reg false [
tq 45 (.mv (.t 3)),
tq 46 (.bin .sub (.t 45) (kq 1)),
tq 3 (.mv (.t 46))] [45, 46]))
 .skip))
(.seq (.reg false [
tq 48 (.mv (.t 0)),
tq 49 (.mv (.t 1)),
tq 50 (.mv (.t 2)),
tq 51 (.mv (.t 4)),
tq 52 (.call true true (.k (.fn n_slices_choosePivotCmpFunc_int [] [])) [.t 48, .t 49, .t 50, .t 51]),
tq 47 (.mv (.t 52)),
tq 53 (.extract (.t 47) 0),
tq 54 (.extract (.t 47) 1),
tq 13 (.mv (.t 53)),
tq 14 (.mv (.t 54))] [47, 48, 49, 50, 51, 52, 53, 54])
(.seq (.seq (.reg false [
tq 55 (.mv (.t 14)),
tq 56 (.bin .eql (.t 55) (kq 2))] [55])
(.cond (.t 56) (.seq (.reg false [
tq 57 (.mv (.t 0)),
tq 58 (.mv (.t 1)),
tq 59 (.mv (.t 2)),
tq 60 (.mv (.t 4)),
tq 61 (.call true true (.k (.fn n_slices_reverseRangeCmpFunc_int [] [])) [.t 57, .t 58, .t 59, .t 60])] [57, 58, 59, 60, 61])
(.seq (.reg false [
tq 62 (.mv (.t 2)),
tq 63 (.bin .sub (.t 62) (kq 1)),
tq 64 (.mv (.t 13)),
tq 65 (.mv (.t 1)),
tq 66 (.bin .sub (.t 64) (.t 65)),
tq 67 (.bin .sub (.t 63) (.t 66)),
tq 13 (.mv (.t 67))] [62, 63, 64, 65, 66, 67])
(.reg false [
tq 14 (.mv (kq 1))] [])))
 .skip))
(.seq (.seq (.reg false [
tq 68 (.mv (.t 10)),
tq 69 (.mv (.t 68)),
⟨some 70, (some (69, true)), .mv (.t 11)⟩,
tq 71 (.pick (.t 69) (.t 70) (.k (.d (.bool false)))),
tq 72 (.mv (.t 71)),
⟨some 73, (some (72, true)), .mv (.t 14)⟩,
⟨some 74, (some (72, true)), .bin .eql (.t 73) (kq 1)⟩,
tq 75 (.pick (.t 72) (.t 74) (.k (.d (.bool false))))] [14, 68, 69, 70, 71, 72, 73, 74])
(.cond (.t 75) (.seq (.reg false [
tq 76 (.mv (.t 0)),
tq 77 (.mv (.t 1)),
tq 78 (.mv (.t 2)),
tq 79 (.mv (.t 4)),
tq 80 (.call true true (.k (.fn n_slices_partialInsertionSortCmpFunc_int [] [])) [.t 76, .t 77, .t 78, .t 79])] [76, 77, 78, 79])
(.cond (.t 80) .ret
 .skip))
 .skip))
(.seq (.seq (.reg true [
tq 81 (.mv (.t 1)),
tq 82 (.bin .gtr (.t 81) (kq 0)),
tq 83 (.mv (.t 82)),
⟨some 84, (some (83, true)), .mv (.t 4)⟩,
⟨some 85, (some (83, true)), .mv (.t 0)⟩,
⟨some 86, (some (83, true)), .mv (.t 1)⟩,
⟨some 87, (some (83, true)), .bin .sub (.t 86) (kq 1)⟩,
⟨some 88, (some (83, true)), .idxAddr 1 (.t 85) (.t 87)⟩,
⟨some 89, (some (83, true)), .load none (.t 88)⟩,
⟨some 90, (some (83, true)), .mv (.t 0)⟩,
⟨some 91, (some (83, true)), .mv (.t 13)⟩,
⟨some 92, (some (83, true)), .idxAddr 1 (.t 90) (.t 91)⟩,
⟨some 93, (some (83, true)), .load none (.t 92)⟩,
⟨some 94, (some (83, true)), .call true true (.t 84) [.t 89, .t 93]⟩,
⟨some 95, (some (83, true)), .bin .lss (.t 94) (kq 0)⟩,
⟨some 96, (some (83, true)), .un .not (.t 95)⟩,
tq 97 (.pick (.t 83) (.t 96) (.k (.d (.bool false))))] [81, 82, 83, 84, 85, 86, 87, 88, 89, 90, 91, 92, 93, 94, 95, 96])
(.cond (.t 97) (.seq (.reg false [
tq 98 (.mv (.t 0)),
tq 99 (.mv (.t 1)),
tq 100 (.mv (.t 2)),
tq 101 (.mv (.t 13)),
tq 102 (.mv (.t 4)),
tq 103 (.call true true (.k (.fn n_slices_partitionEqualCmpFunc_int [] [])) [.t 98, .t 99, .t 100, .t 101, .t 102]),
tq 15 (.mv (.t 103))] [1, 13, 98, 99, 100, 101, 102, 103])
(.seq (.reg false [
tq 104 (.mv (.t 15)),
tq 1 (.mv (.t 104))] [15, 104])
(.exit 1)))
 .skip))
(.seq (.reg false [
tq 106 (.mv (.t 0)),
tq 107 (.mv (.t 1)),
tq 108 (.mv (.t 2)),
tq 109 (.mv (.t 13)),
tq 110 (.mv (.t 4)),
tq 111 (.call true true (.k (.fn n_slices_partitionCmpFunc_int [] [])) [.t 106, .t 107, .t 108, .t 109, .t 110]),
tq 105 (.mv (.t 111)),
tq 112 (.extract (.t 105) 0),
tq 113 (.extract (.t 105) 1),
tq 16 (.mv (.t 112)),
tq 17 (.mv (.t 113))] [13, 105, 106, 107, 108, 109, 110, 111, 112, 113])
(.seq (.reg false [
tq 114 (.mv (.t 17)),
tq 11 (.mv (.t 114))] [17, 114])
(.seq (.reg false [
tq 115 (.mv (.t 16)),
tq 116 (.mv (.t 1)),
tq 117 (.bin .sub (.t 115) (.t 116)),
tq 118 (.mv (.t 2)),
tq 119 (.mv (.t 16)),
tq 120 (.bin .sub (.t 118) (.t 119)),
tq 18 (.mv (.t 117)),
tq 19 (.mv (.t 120))] [115, 116, 117, 118, 119, 120])
(.seq (.reg false [
tq 121 (.mv (.t 12)),
tq 122 (.bin .quo (.t 121) (kq 8)),
tq 20 (.mv (.t 122))] [12, 121, 122])
(.seq (.reg false [
tq 123 (.mv (.t 18)),
tq 124 (.mv (.t 19)),
tq 125 (.bin .lss (.t 123) (.t 124))] [123, 124])
(.cond (.t 125) (.seq (.reg false [
tq 126 (.mv (.t 18)),
tq 127 (.mv (.t 20)),
tq 128 (.bin .geq (.t 126) (.t 127)),
tq 10 (.mv (.t 128))] [18, 20, 126, 127, 128])
(.seq (.reg false [
tq 129 (.mv (.t 0)),
tq 130 (.mv (.t 1)),
tq 131 (.mv (.t 16)),
tq 132 (.mv (.t 3)),
tq 133 (.mv (.t 4)),
tq 134 (.call true true (.k (.fn n_slices_pdqsortCmpFunc_int [] [])) [.t 129, .t 130, .t 131, .t 132, .t 133])] [1, 129, 130, 131, 132, 133, 134])
(.reg false [
tq 135 (.mv (.t 16)),
tq 136 (.bin .add (.t 135) (kq 1)),
tq 1 (.mv (.t 136))] [16, 135, 136])))
 (.seq (.reg false [
tq 137 (.mv (.t 19)),
tq 138 (.mv (.t 20)),
tq 139 (.bin .geq (.t 137) (.t 138)),
tq 10 (.mv (.t 139))] [19, 20, 137, 138, 139])
(.seq (.reg false [
tq 140 (.mv (.t 0)),
tq 141 (.mv (.t 16)),
tq 142 (.bin .add (.t 141) (kq 1)),
tq 143 (.mv (.t 2)),
tq 144 (.mv (.t 3)),
tq 145 (.mv (.t 4)),
tq 146 (.call true true (.k (.fn n_slices_pdqsortCmpFunc_int [] [])) [.t 140, .t 142, .t 143, .t 144, .t 145])] [2, 140, 141, 142, 143, 144, 145, 146])
(.reg false [
tq 147 (.mv (.t 16)),
tq 2 (.mv (.t 147))] [16, 147]))))))))))))))))))

def c_slices_pdqsortCmpFunc_int : CF := ⟨[],
  (.seq (.reg false [
tq 10 (.mv (.k (.d (.bool true))))] [])
(.seq (.reg false [
tq 11 (.mv (.k (.d (.bool true))))] [])
(.block 0 (.loop [0, 1, 2, 3, 4, 10, 11] b_slices_pdqsortCmpFunc_int_1))))⟩

def c_math_bits_Len : CF := ⟨[.tmp 2],
  (.seq (.reg false [
tq 2 (.mv (kq 0))] [2])
(.seq (.cond (.k (.d (.bool false))) (.seq (.reg false [
tq 3 (.mv (.t 0)),
tq 4 (.conv .u32 (.t 3)),
tq 5 (.call false true (.k (.fn n_math_bits_Len32 [] [])) [.t 4]),
tq 2 (.mv (.t 5))] [0, 3, 4, 5])
.ret)
 .skip)
(.seq (.reg false [
tq 6 (.mv (.t 0)),
tq 7 (.call false true (.k (.fn n_math_bits_Len64 [] [])) [.t 6]),
tq 2 (.mv (.t 7))] [0, 6, 7])
.ret)))⟩

def c_cmp_isNaN_string : CF := ⟨[.tmp 2],
  (.seq (.reg false [
tq 2 (.mv (.k (.d (.bool false))))] [2])
(.seq (.reg false [
tq 3 (.mv (.t 0)),
tq 4 (.mv (.t 0)),
tq 5 (.bin .neq (.t 3) (.t 4)),
tq 2 (.mv (.t 5))] [0, 3, 4, 5])
.ret))⟩

def c_calendar_within : CF := ⟨[.tmp 6],
  (.seq (.reg false [
tq 6 (.mv (kq 0))] [6])
(.seq (.reg false [
tq 7 (.mv (.t 0)),
tq 8 (.mv (.t 1)),
tq 9 (.bin .lss (.t 7) (.t 8)),
tq 10 (.mv (.t 9)),
⟨some 11, (some (10, false)), .mv (.t 0)⟩,
⟨some 12, (some (10, false)), .mv (.t 2)⟩,
⟨some 13, (some (10, false)), .bin .gtr (.t 11) (.t 12)⟩,
tq 14 (.pick (.t 10) (.k (.d (.bool true))) (.t 13)),
tq 15 (.call false true (.k (.fn n_calendar_when [] [])) [.t 14, kq 3]),
tq 6 (.mv (.t 15))] [0, 1, 2, 7, 8, 9, 10, 11, 12, 13, 14, 15])
.ret))⟩

def c_cmp_isNaN_int : CF := ⟨[.tmp 2],
  (.seq (.reg false [
tq 2 (.mv (.k (.d (.bool false))))] [2])
(.seq (.reg false [
tq 3 (.mv (.t 0)),
tq 4 (.mv (.t 0)),
tq 5 (.bin .neq (.t 3) (.t 4)),
tq 2 (.mv (.t 5))] [0, 3, 4, 5])
.ret))⟩

def c_priority_facts_1 : CF := ⟨[.tmp 2],
  (.seq (.reg false [
tq 1 (.box ty_priority_Claim (.t 0)),
tq 2 (.mv (kq 0))] [0, 2])
(.seq (.reg false [
fa 3 13 1,
ld 4 3,
tq 5 (.call false true (.k (.fn n_priority_bit [] [])) [.t 4]),
tq 2 (.mv (.t 5))] [1, 3, 4, 5])
.ret))⟩

def c_priority_facts_2 : CF := ⟨[.tmp 2],
  (.seq (.reg false [
tq 1 (.box ty_priority_Claim (.t 0)),
tq 2 (.mv (kq 0))] [0, 2])
(.seq (.reg false [
fa 3 14 1,
ld 4 3,
tq 5 (.call false true (.k (.fn n_priority_bit [] [])) [.t 4]),
tq 2 (.mv (.t 5))] [1, 3, 4, 5])
.ret))⟩

def c_priority_facts_3 : CF := ⟨[.tmp 2],
  (.seq (.reg false [
tq 1 (.box ty_priority_Claim (.t 0)),
tq 2 (.mv (kq 0))] [0, 2])
(.seq (.reg false [
fa 3 15 1,
ld 4 3,
tq 5 (.call false true (.k (.fn n_priority_bit [] [])) [.t 4]),
tq 2 (.mv (.t 5))] [1, 3, 4, 5])
.ret))⟩

def c_priority_facts_4 : CF := ⟨[.tmp 2],
  (.seq (.reg false [
tq 1 (.box ty_priority_Claim (.t 0)),
tq 2 (.mv (kq 0))] [0, 2])
(.seq (.reg false [
fa 3 16 1,
ld 4 3,
tq 5 (.call false true (.k (.fn n_priority_bit [] [])) [.t 4]),
tq 2 (.mv (.t 5))] [1, 3, 4, 5])
.ret))⟩

def c_priority_facts_5 : CF := ⟨[.tmp 2],
  (.seq (.reg false [
tq 1 (.box ty_priority_Claim (.t 0)),
tq 2 (.mv (kq 0))] [0, 2])
(.seq (.reg false [
fa 6 0 1,
fa 7 6 6,
tq 8 (.load (some 3) (.t 7)),
tq 9 (.call false true (.k (.fn n_calendar_Count [] [])) [.t 8]),
tq 5 (.mv (.t 9)),
tq 10 (.extract (.t 5) 0),
tq 11 (.extract (.t 5) 1),
tq 3 (.mv (.t 10)),
tq 4 (.mv (.t 11))] [1, 4, 5, 6, 7, 8, 9, 10, 11])
(.seq (.reg false [
tq 12 (.mv (.t 3)),
tq 2 (.mv (.t 12))] [3, 12])
.ret)))⟩

def c_calendar_Count : CF := ⟨[.tmp 2, .tmp 3],
  (.seq (.reg false [
tq 1 (.box ty_api_Period (.t 0)),
tq 2 (.mv (kq 0)),
tq 3 (.mv (kq 0))] [0, 2, 3])
(.seq (.reg false [
tq 7 (.load (some 3) (.t 1)),
tq 8 (.call false true (.k (.fn n_calendar_DaysOf [] [])) [.t 7]),
tq 6 (.mv (.t 8)),
tq 9 (.extract (.t 6) 0),
tq 10 (.extract (.t 6) 1),
tq 4 (.mv (.t 9)),
tq 5 (.mv (.t 10))] [1, 6, 7, 8, 9, 10])
(.seq (.reg false [
tq 11 (.mv (.t 4)),
tq 12 (.len .slc (.t 11)),
tq 13 (.mv (.t 5)),
tq 2 (.mv (.t 12)),
tq 3 (.mv (.t 13))] [4, 5, 11, 12, 13])
.ret)))⟩

def c_priority_facts_6 : CF := ⟨[.tmp 2],
  (.seq (.reg false [
tq 1 (.box ty_priority_Claim (.t 0)),
tq 2 (.mv (kq 0))] [0, 2])
(.seq (.reg false [
fa 3 0 1,
fa 4 10 3,
ld 5 4,
tq 2 (.mv (.t 5))] [1, 3, 4, 5])
.ret))⟩

def c_priority_facts_7 : CF := ⟨[.tmp 2],
  (.seq (.reg false [
tq 1 (.box ty_priority_Claim (.t 0)),
tq 2 (.mv (kq 0))] [0, 2])
(.seq (.reg false [
fa 3 0 1,
fa 4 11 3,
ld 5 4,
tq 2 (.mv (.t 5))] [1, 3, 4, 5])
.ret))⟩

def c_priority_facts_8 : CF := ⟨[.tmp 2],
  (.seq (.reg false [
tq 1 (.box ty_priority_Claim (.t 0)),
tq 2 (.mv (kq 0))] [0, 2])
(.seq (.reg false [
fa 3 0 1,
fa 4 12 3,
ld 5 4,
tq 2 (.mv (.t 5))] [1, 3, 4, 5])
.ret))⟩

def c_priority_facts_9 : CF := ⟨[.tmp 2],
  (.seq (.reg false [
tq 1 (.box ty_priority_Claim (.t 0)),
tq 2 (.mv (kq 0))] [0, 2])
(.seq (.reg false [
fa 3 17 1,
ld 4 3,
tq 2 (.mv (.t 4))] [1, 3, 4])
.ret))⟩

def c_priority_facts_10 : CF := ⟨[.tmp 2],
  (.seq (.reg false [
tq 1 (.box ty_priority_Claim (.t 0)),
tq 2 (.mv (kq 0))] [0, 2])
(.seq (.reg false [
fa 3 0 1,
fa 4 9 3,
ld 5 4,
tq 2 (.mv (.t 5))] [1, 3, 4, 5])
.ret))⟩

def c_calendar_when : CF := ⟨[.tmp 4],
  (.seq (.reg false [
tq 4 (.mv (kq 0))] [4])
(.seq (.seq (.reg false [
tq 5 (.mv (.t 0))] [0])
(.cond (.t 5) (.seq (.reg false [
tq 6 (.mv (.t 1)),
tq 4 (.mv (.t 6))] [1, 6])
.ret)
 .skip))
(.seq (.reg false [
tq 4 (.mv (kq 0))] [])
.ret)))⟩

def c_calendar_inMask : CF := ⟨[.tmp 4],
  (.seq (.reg false [
tq 4 (.mv (.k (.d (.bool false))))] [4])
(.seq (.reg false [
tq 5 (.mv (.t 0)),
tq 6 (.mv (.t 1)),
tq 7 (.bin .shr (.t 5) (.t 6)),
tq 8 (.bin .and (.t 7) (kq 1)),
tq 9 (.bin .eql (.t 8) (kq 1)),
tq 4 (.mv (.t 9))] [0, 1, 5, 6, 7, 8, 9])
.ret))⟩

def c_calendar_weekday : CF := ⟨[.tmp 2],
  (.seq (.reg false [
tq 2 (.mv (kq 0))] [2])
(.seq (.reg false [
tq 3 (.mv (.t 0)),
tq 4 (.bin .add (.t 3) (kq 5)),
tq 5 (.bin .rem (.t 4) (kq 7)),
tq 2 (.mv (.t 5))] [0, 3, 4, 5])
.ret))⟩

def b_slices_IndexFunc_Lpriority_Key_priority_Key_1 : C :=
  (.seq (.reg false [
tq 9 (.bin .lss (.t 8) (.t 7))] [])
(.seq (.cond (.t 9) .skip
 (.exit 0))
(.seq (.block 1 (.seq (.reg false [
tq 10 (.mv (.t 8)),
tq 5 (.mv (.t 10))] [10])
(.seq (.reg false [
tq 11 (.mv (.t 1)),
tq 12 (.mv (.t 0)),
tq 13 (.mv (.t 5)),
tq 14 (.idxAddr 2 (.t 12) (.t 13)),
tq 15 (.load (some 2) (.t 14)),
tq 16 (.call true true (.t 11) [.t 15])] [11, 12, 13, 14, 15])
(.cond (.t 16) (.seq (.reg false [
tq 17 (.mv (.t 5)),
tq 4 (.mv (.t 17))] [5, 17])
.ret)
 .skip))))
(.reg false [
tq 18 (.bin .add (.t 8) (kq 1)),
tq 8 (.mv (.t 18))] [18]))))

def c_slices_IndexFunc_Lpriority_Key_priority_Key : CF := ⟨[.tmp 4],
  (.seq (.reg false [
tq 4 (.mv (kq 0))] [4])
(.seq (.seq (.reg false [
tq 6 (.mv (.t 0)),
tq 7 (.len .slc (.t 6)),
tq 8 (.mv (kq 0))] [6])
(.block 0 (.loop [0, 1, 7, 8] b_slices_IndexFunc_Lpriority_Key_priority_Key_1)))
(.seq (.reg false [
tq 4 (.mv (kq (-1)))] [])
.ret)))⟩

def b_slices_insertionSortCmpFunc_int_1 : C :=
  (.seq (.seq (.reg true [
tq 18 (.mv (.t 9)),
tq 19 (.mv (.t 1)),
tq 20 (.bin .gtr (.t 18) (.t 19)),
tq 21 (.mv (.t 20)),
⟨some 22, (some (21, true)), .mv (.t 3)⟩,
⟨some 23, (some (21, true)), .mv (.t 0)⟩,
⟨some 24, (some (21, true)), .mv (.t 9)⟩,
⟨some 25, (some (21, true)), .idxAddr 1 (.t 23) (.t 24)⟩,
⟨some 26, (some (21, true)), .load none (.t 25)⟩,
⟨some 27, (some (21, true)), .mv (.t 0)⟩,
⟨some 28, (some (21, true)), .mv (.t 9)⟩,
⟨some 29, (some (21, true)), .bin .sub (.t 28) (kq 1)⟩,
⟨some 30, (some (21, true)), .idxAddr 1 (.t 27) (.t 29)⟩,
⟨some 31, (some (21, true)), .load none (.t 30)⟩,
⟨some 32, (some (21, true)), .call true true (.t 22) [.t 26, .t 31]⟩,
⟨some 33, (some (21, true)), .bin .lss (.t 32) (kq 0)⟩,
tq 34 (.pick (.t 21) (.t 33) (.k (.d (.bool false))))] [18, 19, 20, 21, 22, 23, 24, 25, 26, 27, 28, 29, 30, 31, 32, 33])
(.cond (.t 34) .skip
 (.exit 2)))
(.seq (.block 3 (.reg true [
tq 37 (.mv (.t 0)),
tq 38 (.mv (.t 9)),
tq 39 (.mv (.t 0)),
tq 40 (.mv (.t 9)),
tq 41 (.bin .sub (.t 40) (kq 1)),
tq 42 (.mv (.t 0)),
tq 43 (.mv (.t 9)),
tq 44 (.bin .sub (.t 43) (kq 1)),
tq 45 (.idxAddr 1 (.t 42) (.t 44)),
ld 46 45,
tq 47 (.mv (.t 0)),
tq 48 (.mv (.t 9)),
tq 49 (.idxAddr 1 (.t 47) (.t 48)),
ld 50 49,
tq 51 (.idxAddr 1 (.t 37) (.t 38)),
⟨none, none, .store 1 (.t 51) (.t 46)⟩,
tq 52 (.idxAddr 1 (.t 39) (.t 41)),
⟨none, none, .store 1 (.t 52) (.t 50)⟩] [37, 38, 39, 40, 41, 42, 43, 44, 45, 46, 47, 48, 49, 50, 51, 52]))
(.reg false [
tq 35 (.mv (.t 9)),
tq 36 (.bin .sub (.t 35) (kq 1)),
tq 9 (.mv (.t 36))] [35, 36])))

def b_slices_insertionSortCmpFunc_int_2 : C :=
  (.seq (.seq (.reg false [
tq 12 (.mv (.t 8)),
tq 13 (.mv (.t 2)),
tq 14 (.bin .lss (.t 12) (.t 13))] [12, 13])
(.cond (.t 14) .skip
 (.exit 0)))
(.seq (.block 1 (.seq (.reg false [
tq 17 (.mv (.t 8)),
tq 9 (.mv (.t 17))] [17])
(.block 2 (.loop [0, 1, 2, 3, 8, 9] b_slices_insertionSortCmpFunc_int_1))))
(.reg false [
tq 15 (.mv (.t 8)),
tq 16 (.bin .add (.t 15) (kq 1)),
tq 8 (.mv (.t 16))] [15, 16])))

def c_slices_insertionSortCmpFunc_int : CF := ⟨[],
  (.seq (.reg false [
tq 10 (.mv (.t 1)),
tq 11 (.bin .add (.t 10) (kq 1)),
tq 8 (.mv (.t 11))] [10, 11])
(.block 0 (.loop [0, 1, 2, 3, 8] b_slices_insertionSortCmpFunc_int_2)))⟩

def c_math_bits_Len32 : CF := ⟨[.tmp 2],
  (.seq (.reg false [
tq 2 (.mv (kq 0))] [])
(.seq (.seq (.reg false [
tq 3 (.mv (.t 0)),
tq 4 (.bin .geq (.t 3) (.k (.d (.int .u32 65536))))] [3])
(.cond (.t 4) (.seq (.reg false [
tq 5 (.mv (.t 0)),
tq 6 (.bin .shr (.t 5) (.k (.d (.int .u64 16)))),
tq 0 (.mv (.t 6))] [5, 6])
(.reg false [
tq 2 (.mv (kq 16))] []))
 .skip))
(.seq (.seq (.reg false [
tq 7 (.mv (.t 0)),
tq 8 (.bin .geq (.t 7) (.k (.d (.int .u32 256))))] [7])
(.cond (.t 8) (.seq (.reg false [
tq 9 (.mv (.t 0)),
tq 10 (.bin .shr (.t 9) (.k (.d (.int .u64 8)))),
tq 0 (.mv (.t 10))] [9, 10])
(.reg false [
tq 11 (.mv (.t 2)),
tq 12 (.bin .add (.t 11) (kq 8)),
tq 2 (.mv (.t 12))] [11, 12]))
 .skip))
(.seq (.reg false [
tq 13 (.mv (.t 2)),
tq 14 (.mv (.t 0)),
tq 15 (.conv .u8 (.t 14)),
tq 16 (.idxS (.k (.d (.str [0, 1, 2, 2, 3, 3, 3, 3, 4, 4, 4, 4, 4, 4, 4, 4, 5, 5, 5, 5, 5, 5, 5, 5, 5, 5, 5, 5, 5, 5, 5, 5, 6, 6, 6, 6, 6, 6, 6, 6, 6, 6, 6, 6, 6, 6, 6, 6, 6, 6, 6, 6, 6, 6, 6, 6, 6, 6, 6, 6, 6, 6, 6, 6, 7, 7, 7, 7, 7, 7, 7, 7, 7, 7, 7, 7, 7, 7, 7, 7, 7, 7, 7, 7, 7, 7, 7, 7, 7, 7, 7, 7, 7, 7, 7, 7, 7, 7, 7, 7, 7, 7, 7, 7, 7, 7, 7, 7, 7, 7, 7, 7, 7, 7, 7, 7, 7, 7, 7, 7, 7, 7, 7, 7, 7, 7, 7, 7, 8, 8, 8, 8, 8, 8, 8, 8, 8, 8, 8, 8, 8, 8, 8, 8, 8, 8, 8, 8, 8, 8, 8, 8, 8, 8, 8, 8, 8, 8, 8, 8, 8, 8, 8, 8, 8, 8, 8, 8, 8, 8, 8, 8, 8, 8, 8, 8, 8, 8, 8, 8, 8, 8, 8, 8, 8, 8, 8, 8, 8, 8, 8, 8, 8, 8, 8, 8, 8, 8, 8, 8, 8, 8, 8, 8, 8, 8, 8, 8, 8, 8, 8, 8, 8, 8, 8, 8, 8, 8, 8, 8, 8, 8, 8, 8, 8, 8, 8, 8, 8, 8, 8, 8, 8, 8, 8, 8, 8, 8, 8, 8, 8, 8, 8, 8, 8, 8, 8, 8, 8, 8, 8, 8, 8, 8, 8, 8]))) (.t 15)),
tq 17 (.conv .i64 (.t 16)),
tq 18 (.bin .add (.t 13) (.t 17)),
tq 2 (.mv (.t 18))] [0, 13, 14, 15, 16, 17, 18])
.ret))))⟩

def c_math_bits_Len64 : CF := ⟨[.tmp 2],
  (.seq (.reg false [
tq 2 (.mv (kq 0))] [])
(.seq (.seq (.reg false [
tq 3 (.mv (.t 0)),
tq 4 (.bin .geq (.t 3) (.k (.d (.int .u64 4294967296))))] [3])
(.cond (.t 4) (.seq (.reg false [
tq 5 (.mv (.t 0)),
tq 6 (.bin .shr (.t 5) (.k (.d (.int .u64 32)))),
tq 0 (.mv (.t 6))] [5, 6])
(.reg false [
tq 2 (.mv (kq 32))] []))
 .skip))
(.seq (.seq (.reg false [
tq 7 (.mv (.t 0)),
tq 8 (.bin .geq (.t 7) (.k (.d (.int .u64 65536))))] [7])
(.cond (.t 8) (.seq (.reg false [
tq 9 (.mv (.t 0)),
tq 10 (.bin .shr (.t 9) (.k (.d (.int .u64 16)))),
tq 0 (.mv (.t 10))] [9, 10])
(.reg false [
tq 11 (.mv (.t 2)),
tq 12 (.bin .add (.t 11) (kq 16)),
tq 2 (.mv (.t 12))] [11, 12]))
 .skip))
(.seq (.seq (.reg false [
tq 13 (.mv (.t 0)),
tq 14 (.bin .geq (.t 13) (.k (.d (.int .u64 256))))] [13])
(.cond (.t 14) (.seq (.reg false [
tq 15 (.mv (.t 0)),
tq 16 (.bin .shr (.t 15) (.k (.d (.int .u64 8)))),
tq 0 (.mv (.t 16))] [15, 16])
(.reg false [
tq 17 (.mv (.t 2)),
tq 18 (.bin .add (.t 17) (kq 8)),
tq 2 (.mv (.t 18))] [17, 18]))
 .skip))
(.seq (.reg false [
tq 19 (.mv (.t 2)),
tq 20 (.mv (.t 0)),
tq 21 (.conv .u8 (.t 20)),
tq 22 (.idxS (.k (.d (.str [0, 1, 2, 2, 3, 3, 3, 3, 4, 4, 4, 4, 4, 4, 4, 4, 5, 5, 5, 5, 5, 5, 5, 5, 5, 5, 5, 5, 5, 5, 5, 5, 6, 6, 6, 6, 6, 6, 6, 6, 6, 6, 6, 6, 6, 6, 6, 6, 6, 6, 6, 6, 6, 6, 6, 6, 6, 6, 6, 6, 6, 6, 6, 6, 7, 7, 7, 7, 7, 7, 7, 7, 7, 7, 7, 7, 7, 7, 7, 7, 7, 7, 7, 7, 7, 7, 7, 7, 7, 7, 7, 7, 7, 7, 7, 7, 7, 7, 7, 7, 7, 7, 7, 7, 7, 7, 7, 7, 7, 7, 7, 7, 7, 7, 7, 7, 7, 7, 7, 7, 7, 7, 7, 7, 7, 7, 7, 7, 8, 8, 8, 8, 8, 8, 8, 8, 8, 8, 8, 8, 8, 8, 8, 8, 8, 8, 8, 8, 8, 8, 8, 8, 8, 8, 8, 8, 8, 8, 8, 8, 8, 8, 8, 8, 8, 8, 8, 8, 8, 8, 8, 8, 8, 8, 8, 8, 8, 8, 8, 8, 8, 8, 8, 8, 8, 8, 8, 8, 8, 8, 8, 8, 8, 8, 8, 8, 8, 8, 8, 8, 8, 8, 8, 8, 8, 8, 8, 8, 8, 8, 8, 8, 8, 8, 8, 8, 8, 8, 8, 8, 8, 8, 8, 8, 8, 8, 8, 8, 8, 8, 8, 8, 8, 8, 8, 8, 8, 8, 8, 8, 8, 8, 8, 8, 8, 8, 8, 8, 8, 8, 8, 8, 8, 8, 8, 8]))) (.t 21)),
tq 23 (.conv .i64 (.t 22)),
tq 24 (.bin .add (.t 19) (.t 23)),
tq 2 (.mv (.t 24))] [0, 19, 20, 21, 22, 23, 24])
.ret)))))⟩

def c_calendar_DaysOf : CF := ⟨[.tmp 2, .tmp 3],
  (.seq (.reg false [
tq 1 (.box ty_api_Period (.t 0)),
tq 2 (.mv (.k (.d (.list 0 [])))),
tq 3 (.mv (kq 0))] [0, 2, 3])
(.seq (.seq (.reg false [
tq 5 (.load (some 3) (.t 1)),
tq 6 (.call false true (.k (.fn n_calendar_CheckPeriod [] [])) [.t 5]),
tq 4 (.mv (.t 6))] [5, 6])
(.seq (.reg false [
tq 7 (.mv (.t 4)),
tq 8 (.bin .neq (.t 7) (kq 0))] [7])
(.cond (.t 8) (.seq (.reg false [
tq 9 (.mv (.t 4)),
tq 2 (.mv (.k (.d (.list 0 [])))),
tq 3 (.mv (.t 9))] [4, 9])
.ret)
 .skip)))
(.seq (.reg false [
tq 10 (.load (some 3) (.t 1)),
tq 11 (.call false false (.k (.fn n_calendar_daysOf [] [])) [.t 10]),
tq 12 (.call true true (.k (.fn n_calendar_collected_int [] [])) [.t 11, .k (.fn n_calendar_DaysOf_1 [] [])]),
tq 2 (.mv (.t 12)),
tq 3 (.mv (kq 0))] [1, 10, 11, 12])
.ret)))⟩

def b_calendar_collected_int_1 : C :=
  (.reg false [
tq 6 (.mv (.t 8))] [8])

def b_calendar_collected_int_2 : C :=
  (.block 1 (.seq (.reg false [
ld 9 3,
tq 10 (.mv (.t 6)),
tq 11 (.call true true (.t 9) [.t 10])] [3, 9, 10])
(.cond (.t 11) (.reg false [
ld 12 5,
tq 13 (.mv (.t 6)),
tq 14 (.mkList 1 1 [.t 13]),
tq 15 (.append ⟨false, ty_int, 1, 8⟩ (.t 12) (.t 14)),
⟨none, none, .store 1 (.t 5) (.t 15)⟩] [5, 6, 12, 13, 14, 15])
 .skip)))

def c_calendar_collected_int : CF := ⟨[.tmp 4],
  (.seq (.reg false [
tq 3 (.box ty_func_int_bool (.t 1)),
tq 4 (.ownNil ⟨false, ty_int, 1, 8⟩)] [1])
(.seq (.reg false [
tq 5 (.alloc ty_Lint [.own ⟨false, ty_int, 1, 8⟩])] [])
(.seq (.seq (.reg false [
tq 7 (.mv (.t 0))] [0])
(.block 0 (.rangeFn 18 (.t 7) [8] b_calendar_collected_int_1 b_calendar_collected_int_2)))
(.seq (.reg false [
ld 16 5,
tq 4 (.mv (.t 16))] [5, 16])
.ret))))⟩

def c_calendar_daysOf : CF := ⟨[.tmp 2],
  (.seq (.reg false [
tq 1 (.box ty_api_Period (.t 0)),
tq 2 (.mv (.k (.d (.nilf))))] [0, 2])
(.seq (.reg false [
tq 3 (.mkFunc n_calendar_daysOf_1 [] [.t 1]),
tq 2 (.mv (.t 3))] [1, 3])
.ret))⟩

def c_calendar_DaysOf_1 : CF := ⟨[.tmp 2],
  (.seq (.reg false [
tq 2 (.mv (.k (.d (.bool false))))] [2])
(.seq (.reg false [
tq 2 (.mv (.k (.d (.bool true))))] [])
.ret))⟩

def c_strings_IndexByte : CF := ⟨[.tmp 4],
  (.seq (.reg false [
tq 4 (.mv (kq 0))] [4])
(.seq (.reg false [
tq 5 (.mv (.t 0)),
tq 6 (.mv (.t 1)),
tq 7 (.call false true (.k (.fn n_internal_stringslite_IndexByte [] [])) [.t 5, .t 6]),
tq 4 (.mv (.t 7))] [0, 1, 5, 6, 7])
.ret))⟩

def b_calendar_daysOf_1_1 : C :=
  (.seq (.seq (.reg false [
tq 6 (.mv (.t 3)),
fa 7 1 1,
ld 8 7,
tq 9 (.bin .leq (.t 6) (.t 8))] [6, 7, 8])
(.cond (.t 9) .skip
 (.exit 0)))
(.seq (.block 1 (.seq (.reg true [
fa 12 2 1,
ld 13 12,
tq 14 (.mv (.t 3)),
tq 15 (.call false true (.k (.fn n_calendar_weekday [] [])) [.t 14]),
tq 16 (.call false true (.k (.fn n_calendar_inMask [] [])) [.t 13, .t 15]),
tq 17 (.mv (.t 16)),
⟨some 18, (some (17, true)), .mv (.t 0)⟩,
⟨some 19, (some (17, true)), .mv (.t 3)⟩,
⟨some 20, (some (17, true)), .call true true (.t 18) [.t 19]⟩,
⟨some 21, (some (17, true)), .un .not (.t 20)⟩,
tq 22 (.pick (.t 17) (.t 21) (.k (.d (.bool false))))] [12, 13, 14, 15, 16, 17, 18, 19, 20, 21])
(.cond (.t 22) .ret
 .skip)))
(.reg false [
tq 10 (.mv (.t 3)),
tq 11 (.bin .add (.t 10) (kq 1)),
tq 3 (.mv (.t 11))] [10, 11])))

def c_calendar_daysOf_1 : CF := ⟨[],
  (.seq (.reg false [
fa 4 0 1,
ld 5 4,
tq 3 (.mv (.t 5))] [4, 5])
(.block 0 (.loop [0, 1, 3] b_calendar_daysOf_1_1)))⟩


end Go.Proofs.YtcephlgejkngiaaGreatDoor.Co
