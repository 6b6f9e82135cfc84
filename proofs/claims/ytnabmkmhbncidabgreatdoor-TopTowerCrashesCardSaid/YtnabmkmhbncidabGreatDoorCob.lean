/-
  The functions of the seat in the evaluator's syntax (printed by a program of mine; checked in a text that follows).
-/
import Derived.Test.YtnabmkmhbncidabGreatDoorCoa
namespace Go.Proofs.YtnabmkmhbncidabGreatDoor.Co
open Go.Evl
def zke:C:=
  (.seq (.seq (.reg true [
mq 18 9,
mq 19 1,
tq 20 (.bin .gtr (.t 18) (.t 19)),
mq 21 20,
gq 22 21 true (.mv (.t 3)),
gq 23 21 true (.mv (.t 0)),
gq 24 21 true (.mv (.t 9)),
gq 25 21 true (.idxAddr 1 (.t 23) (.t 24)),
gq 26 21 true (.load none (.t 25)),
gq 27 21 true (.mv (.t 0)),
gq 28 21 true (.mv (.t 9)),
gq 29 21 true (.bin .sub (.t 28) (kq 1)),
gq 30 21 true (.idxAddr 1 (.t 27) (.t 29)),
gq 31 21 true (.load none (.t 30)),
gq 32 21 true (.call true true (.t 22) [.t 26,.t 31]),
gq 33 21 true (.bin .lss (.t 32) (kq 0)),
tq 34 (.pick (.t 21) (.t 33) (.k (.d (.bool false))))] [18,19,20,21,22,23,24,25,26,27,28,29,30,31,32,33])
(.cond (.t 34) .skip
 (.exit 2)))
(.seq (.block 3 (.reg true [
mq 37 0,
mq 38 9,
mq 39 0,
mq 40 9,
tq 41 (.bin .sub (.t 40) (kq 1)),
mq 42 0,
mq 43 9,
tq 44 (.bin .sub (.t 43) (kq 1)),
tq 45 (.idxAddr 1 (.t 42) (.t 44)),
ld 46 45,
mq 47 0,
mq 48 9,
tq 49 (.idxAddr 1 (.t 47) (.t 48)),
ld 50 49,
tq 51 (.idxAddr 1 (.t 37) (.t 38)),
⟨none,none,.store 1 (.t 51) (.t 46)⟩,
tq 52 (.idxAddr 1 (.t 39) (.t 41)),
⟨none,none,.store 1 (.t 52) (.t 50)⟩] [37,38,39,40,41,42,43,44,45,46,47,48,49,50,51,52]))
(rg [
mq 35 9,
tq 36 (.bin .sub (.t 35) (kq 1)),
mq 9 36] [35,36])))
def zkf:C:=
  (.seq (sr [
mq 12 8,
mq 13 2,
tq 14 (.bin .lss (.t 12) (.t 13))] [12,13]
(.cond (.t 14) .skip
 (.exit 0)))
(.seq (.block 1 (sr [
mq 17 8,
mq 9 17] [17]
(.block 2 (.loop [0,1,2,3,8,9] zke))))
(rg [
mq 15 8,
tq 16 (.bin .add (.t 15) (kq 1)),
mq 8 16] [15,16])))
def zk2:CF:=⟨[],
  (sr [
mq 10 1,
tq 11 (.bin .add (.t 10) (kq 1)),
mq 8 11] [10,11]
(.block 0 (.loop [0,1,2,3,8] zkf)))⟩
def zif:C:=
  (.seq (sr [
mq 18 10,
mq 19 11,
tq 20 (.bin .neq (.t 18) (.t 19))] [18,19]
(.cond (.t 20) .skip
 (.exit 0)))
(.block 1 (sr [
mq 21 10,
mq 22 11,
tq 23 (.bin .gtr (.t 21) (.t 22))] [21,22]
(.cond (.t 23) (sr [
mq 24 0,
mq 25 2,
mq 26 10,
tq 27 (.bin .sub (.t 25) (.t 26)),
mq 28 2,
mq 29 11,
mq 30 4,
tq 31 (.call true true (.k (.fn zbf [] [])) [.t 24,.t 27,.t 28,.t 29,.t 30])] [24,25,26,27,28,29,30,31]
(rg [
mq 32 10,
mq 33 11,
tq 34 (.bin .sub (.t 32) (.t 33)),
mq 10 34] [32,33,34]))
 (sr [
mq 35 0,
mq 36 2,
mq 37 10,
tq 38 (.bin .sub (.t 36) (.t 37)),
mq 39 2,
mq 40 11,
tq 41 (.bin .add (.t 39) (.t 40)),
mq 42 10,
tq 43 (.bin .sub (.t 41) (.t 42)),
mq 44 10,
mq 45 4,
tq 46 (.call true true (.k (.fn zbf [] [])) [.t 35,.t 38,.t 43,.t 44,.t 45])] [35,36,37,38,39,40,41,42,43,44,45,46]
(rg [
mq 47 11,
mq 48 10,
tq 49 (.bin .sub (.t 47) (.t 48)),
mq 11 49] [47,48,49]))))))
def zi7:CF:=⟨[],
  (sr [
mq 12 2,
mq 13 1,
tq 14 (.bin .sub (.t 12) (.t 13)),
mq 10 14] [1,12,13,14]
(sr [
mq 15 3,
mq 16 2,
tq 17 (.bin .sub (.t 15) (.t 16)),
mq 11 17] [3,15,16,17]
(.seq (.block 0 (.loop [0,2,4,10,11] zif))
(rg [
mq 50 0,
mq 51 2,
mq 52 10,
tq 53 (.bin .sub (.t 51) (.t 52)),
mq 54 2,
mq 55 10,
mq 56 4,
tq 57 (.call true true (.k (.fn zbf [] [])) [.t 50,.t 53,.t 54,.t 55,.t 56])] [0,2,4,10,50,51,52,53,54,55,56,57]))))⟩
def zt1:C:=
  (sr [
tq 11 (.nextS (.t 10)),
xq 12 11 0] []
(.seq (.cond (.t 12) .skip
 (.exit 0))
(.block 1 (sr [
xq 13 11 1,
xq 14 11 2,
mq 7 13,
mq 8 14] [11,13,14]
(sr [
mq 15 1,
mq 16 8,
tq 17 (.call false true (.t 15) [.t 16]),
mq 18 2,
tq 19 (.eqv none false (.t 17) (.t 18))] [8,15,16,17,18]
(.cond (.t 19) (sr [
mq 20 7,
mq 6 20] [7,20]
.ret)
 .skip))))))
def zwy:CF:=⟨[.tmp 6],
  (sr [
tq 6 (.mv (kq 0))] [6]
(.seq (sr [
mq 9 0,
tq 10 (.rangeS (.t 9))] [0,9]
(.block 0 (.loop [1,2,10] zt1)))
(sr [
tq 6 (.mv (kq (-1)))] []
.ret)))⟩
def z49:CF:=⟨[.tmp 4],
  (sr [
tq 2 (.box zlm (.t 0)),
tq 4 (.mv (.k (.d (.bool false))))] [0,4]
(.seq (.reg true [
mq 5 1,
fa 6 0 2,
ld 7 6,
tq 8 (.bin .geq (.t 5) (.t 7)),
mq 9 8,
gq 10 9 true (.mv (.t 1)),
gq 11 9 true (.fieldAddr 1 (.t 2)),
gq 12 9 true (.load none (.t 11)),
gq 13 9 true (.bin .leq (.t 10) (.t 12)),
tq 14 (.pick (.t 9) (.t 13) (.k (.d (.bool false)))),
mq 15 14,
gq 16 15 true (.fieldAddr 2 (.t 2)),
gq 17 15 true (.load none (.t 16)),
gq 18 15 true (.mv (.t 1)),
gq 19 15 true (cl zk9 [.t 18]),
gq 20 15 true (cl zl6 [.t 17,.t 19]),
tq 21 (.pick (.t 15) (.t 20) (.k (.d (.bool false)))),
mq 4 21] [1,2,5,6,7,8,9,10,11,12,13,14,15,16,17,18,19,20,21])
.ret))⟩
def zi6:CF:=⟨[.tmp 10,.tmp 11],
  (sr [
tq 10 (.mv (kq 0)),
tq 11 (.mv (kq 0))] [10,11]
(.seq (.seq (.reg true [
mq 12 4,
mq 13 0,
mq 14 2,
tq 15 (.idxAddr 2 (.t 13) (.t 14)),
lq 16 2 15,
mq 17 0,
mq 18 1,
tq 19 (.idxAddr 2 (.t 17) (.t 18)),
lq 20 2 19,
tq 21 (.call true true (.t 12) [.t 16,.t 20]),
tq 22 (.bin .lss (.t 21) (kq 0))] [0,4,12,13,14,15,16,17,18,19,20,21])
(.cond (.t 22) (sr [
mq 23 3,
tq 24 (.nilCheck (.t 23)),
ld 25 24,
tq 26 (.bin .add (.t 25) (kq 1)),
tq 27 (.nilCheck (.t 23)),
⟨none,none,.store 1 (.t 27) (.t 26)⟩] [3,23,24,25,26,27]
(sr [
mq 28 2,
mq 29 1,
mq 10 28,
mq 11 29] [1,2,28,29]
.ret))
 .skip))
(sr [
mq 30 1,
mq 31 2,
mq 10 30,
mq 11 31] [1,2,30,31]
.ret)))⟩
def zhe:C:=
  (.seq (sr [
mq 11 10,
mq 12 3,
tq 13 (.bin .lss (.t 11) (.t 12))] [11,12]
(.cond (.t 13) .skip
 (.exit 0)))
(.seq (.block 1 (.reg true [
mq 16 0,
mq 17 1,
mq 18 10,
tq 19 (.bin .add (.t 17) (.t 18)),
mq 20 0,
mq 21 2,
mq 22 10,
tq 23 (.bin .add (.t 21) (.t 22)),
mq 24 0,
mq 25 2,
mq 26 10,
tq 27 (.bin .add (.t 25) (.t 26)),
tq 28 (.idxAddr 2 (.t 24) (.t 27)),
lq 29 2 28,
mq 30 0,
mq 31 1,
mq 32 10,
tq 33 (.bin .add (.t 31) (.t 32)),
tq 34 (.idxAddr 2 (.t 30) (.t 33)),
lq 35 2 34,
tq 36 (.idxAddr 2 (.t 16) (.t 19)),
⟨none,none,.store 2 (.t 36) (.t 29)⟩,
tq 37 (.idxAddr 2 (.t 20) (.t 23)),
⟨none,none,.store 2 (.t 37) (.t 35)⟩] [16,17,18,19,20,21,22,23,24,25,26,27,28,29,30,31,32,33,34,35,36,37]))
(rg [
mq 14 10,
tq 15 (.bin .add (.t 14) (kq 1)),
mq 10 15] [14,15])))
def zh6:CF:=⟨[],
  (sr [
tq 10 (.mv (kq 0))] []
(.block 0 (.loop [0,1,2,3,10] zhe)))⟩
end Go.Proofs.YtnabmkmhbncidabGreatDoor.Co
